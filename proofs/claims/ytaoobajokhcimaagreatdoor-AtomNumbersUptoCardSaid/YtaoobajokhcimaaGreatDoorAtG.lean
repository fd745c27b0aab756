/- The program's way to see a text's validity is the reference's. Plain. -/
import Derived.Test.YtaoobajokhcimaaGreatDoorAtO
import Derived.Lib.ValidLaws
import Derived.Shelf.GgClosure.StringsIndexFunc
set_option linter.unusedSimpArgs false
set_option linter.unusedVariables false
namespace Go.Proofs.YtaoobajokhcimaaGreatDoor

/-- What 'next' answers, of the decoder's own answer. -/
def nextD (r : Nat × Nat) : Int × Int := if r.1 = 65533 ∧ r.2 = 1 then (0, 0) else ((r.1 : Int), (r.2 : Int))
theorem nextD_bad : nextD (65533, 1) = (0, 0) := rfl
set_option maxHeartbeats 4000000 in
theorem nextG_decode (n b0 b1 b2 b3 : Nat) (hn : 1 ≤ n) (h0 : b0 < 256) (h1 : b1 < 256) (h2 : b2 < 256) (h3 : b3 < 256) :
    nextG n b0 b1 b2 b3 = nextD (Lib.decodeN n b0 b1 b2 b3) := by
  unfold nextG finF Lib.decodeN
  (repeat' split) <;> first
    | (exfalso; omega)
    | rfl
    | (unfold nextD; rw [if_neg (by simp; try omega)]; apply Prod.ext <;> simp only <;> omega)

theorem byteAt_drop (s : ByteArray) (j i : Nat) (hj : j ≤ s.size) : byteAt (s.extract j s.size) i = (((s.data.toList.drop j).getD i 0).toNat : Int) := by
  unfold byteAt
  have e : (s.extract j s.size).data.toList = s.data.toList.drop j := by
    rw [ByteArray.data_extract, Array.toList_extract, List.extract_eq_take_drop]
    rw [List.take_of_length_le]
    rw [List.length_drop, Array.length_toList]
    exact Nat.le_refl _
  rw [← Array.getElem?_toList, e, List.getD_eq_getElem?_getD]
theorem nextF_drop (s : ByteArray) (j : Nat) (hj : j < s.size) : nextF (s.extract j s.size) = nextD (Lib.decodeL (s.data.toList.drop j)) := by
  unfold nextF
  rw [byteAt_drop s j 0 (by omega), byteAt_drop s j 1 (by omega), byteAt_drop s j 2 (by omega), byteAt_drop s j 3 (by omega), Lib.decodeL_N, ← nextG_decode]
  · congr 1
    simp
  · rw [List.length_drop]; have : s.data.toList.length = s.size := by simp
    omega
  all_goals exact UInt8.toNat_lt _
theorem decode_drop (s : ByteArray) (j : Nat) : Utf8.decode s j = Lib.decodeL (s.data.toList.drop j) := by
  rw [Lib.decode_N, Lib.decodeL_N, List.length_drop]
  simp only [List.getD_eq_getElem?_getD, List.getElem?_drop, Nat.add_zero]

/-- What char.Valid answers of one text. -/
def badR (r : Nat) : Bool := !xmlF (r : Int)
def cvalidF (s : ByteArray) : Bool := Lib.validD s.data.toList && !decide (0 ≤ Lib.idxFunc badR true s)

theorem pts_valid (s : ByteArray) : ∀ (k f j : Nat), s.size < k + j → s.size ≤ f + j → j ≤ s.size →
    (match ptsR s k j with | none => false | some l => l.all xmlF) = (Lib.validD (s.data.toList.drop j) && !decide (0 ≤ Lib.idxFuncFrom badR true s f j))
  | 0, _, j, h, _, h2 => by omega
  | k + 1, f, j, h, hf, h2 => by
    have hL : s.data.toList.length = s.size := by simp
    by_cases hj : j < s.size
    · obtain ⟨g, rfl⟩ : ∃ g, f = g + 1 := ⟨f - 1, by omega⟩
      have hne : s.data.toList.drop j ≠ [] := by
        intro h0
        have := congrArg List.length h0
        rw [List.length_drop, hL] at this
        simp at this
        omega
      simp only [ptsR, if_pos hj, Lib.idxFuncFrom, decode_drop, nextF_drop s j hj]
      rw [Lib.validD_step _ hne]
      have hw := Lib.decodeL_width (s.data.toList.drop j)
      have hq := (nextF_bd (s.extract j s.size)).2.2
      rw [nextF_drop s j hj] at hq
      have hsz : (s.extract j s.size).size = s.size - j := by simp
      rw [hsz] at hq
      generalize Lib.decodeL (s.data.toList.drop j) = r at *
      unfold nextD at *
      by_cases hbad : r.1 = 65533 ∧ r.2 = 1
      · simp [hbad]
      · rw [if_neg hbad] at hq ⊢
        rw [if_neg hbad]
        simp only at hq ⊢
        have hq2 := (hq (by omega) (by omega)).1
        rw [if_neg (by omega), Int.toNat_natCast]
        have ih := pts_valid s k g (j + r.2) (by omega) (by omega) (by omega)
        rw [List.drop_drop]
        have hX : badR r.1 = !xmlF (r.1 : Int) := rfl
        cases hx : xmlF (r.1 : Int)
        · rw [hx] at hX
          rw [hX]
          have : (0 : Int) ≤ (j : Int) := by omega
          simp only [Bool.not_false, if_true, decide_eq_true this, Bool.not_true, Bool.and_false]
          cases ptsR s k (j + r.2) with
          | none => rfl
          | some l => simp [hx]
        · rw [hx] at hX
          rw [hX]
          simp only [Bool.not_true, Bool.false_eq_true, if_false]
          rw [← ih]
          cases ptsR s k (j + r.2) with
          | none => rfl
          | some l => simp [hx]
    · have h0 : s.data.toList.drop j = [] := List.drop_eq_nil_of_le (by omega)
      rw [h0, Lib.idxFuncFrom_end _ _ _ _ _ hj]
      simp [ptsR, hj, Lib.validD_nil]

theorem cvalid_valid (s : ByteArray) : cvalidF s = validF s := by
  have h := pts_valid s (s.size + 1) s.size 0 (by omega) (by omega) (Nat.zero_le _)
  rw [List.drop_zero] at h
  unfold cvalidF validF pointsF Lib.idxFunc
  exact h.symm
end Go.Proofs.YtaoobajokhcimaaGreatDoor
