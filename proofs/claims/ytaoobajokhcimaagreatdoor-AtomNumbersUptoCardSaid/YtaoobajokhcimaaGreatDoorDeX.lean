/- What is written is read back: plain. -/
import Derived.Test.YtaoobajokhcimaaGreatDoorDeV
import Derived.Test.YtaoobajokhcimaaGreatDoorDeT
set_option linter.unusedSimpArgs false
set_option linter.unusedVariables false
namespace Go.Proofs.YtaoobajokhcimaaGreatDoor

theorem chr_nat {d : Int} (h : 0 ≤ d ∧ d ≤ 9) : (chr d).toNat = 48 + d.toNat := by
  unfold chr
  simp
  omega
theorem dig_chr {d : Int} (h : 0 ≤ d ∧ d ≤ 9) : dig (chr d) = d := by
  unfold dig
  rw [chr_nat h]
  omega
theorem isD_chr {d : Int} (h : 0 ≤ d ∧ d ≤ 9) : isD (chr d) = true := by
  unfold isD
  rw [chr_nat h]
  simp
  omega
theorem chs_all {L : List Int} (h : Dg L) : (chs L).all isD = true := by
  unfold chs
  rw [List.all_reverse, List.all_map, List.all_eq_true]
  intro d hd
  exact isD_chr (h d hd)
theorem rv_chs {L : List Int} (h : Dg L) : rv (chs L) = dval L := by
  unfold rv dsOf chs
  rw [List.map_reverse, List.reverse_reverse, List.map_map]
  congr 1
  have : ∀ l : List Int, Dg l → l.map (dig ∘ chr) = l := by
    intro l
    induction l with
    | nil => intro _; rfl
    | cons d l ih =>
      intro hl
      rw [List.map_cons, ih hl.tail]
      simp [dig_chr hl.head]
  exact this L h
theorem isD_ne {c : UInt8} (h : isD c = true) : c.toNat ≠ 46 ∧ c.toNat ≠ 45 ∧ c.toNat ≠ 43 := by
  simp [isD] at h
  omega
theorem tw_all {l r : List UInt8} (h : l.all isD = true) : (l ++ 46 :: r).takeWhile (fun b => b.toNat != 46) = l ∧ (l ++ 46 :: r).dropWhile (fun b => b.toNat != 46) = 46 :: r := by
  induction l with
  | nil => simp
  | cons c l ih =>
    simp only [List.all_cons, Bool.and_eq_true] at h
    have hc : (c.toNat != 46) = true := by simpa using (isD_ne h.1).1
    obtain ⟨h1, h2⟩ := ih h.2
    simp only [List.cons_append, List.takeWhile_cons, List.dropWhile_cons, hc, if_true, h1, h2]
    first | exact ⟨trivial, trivial⟩ | simp
theorem tw_none {l : List UInt8} (h : l.all isD = true) : l.takeWhile (fun b => b.toNat != 46) = l ∧ l.dropWhile (fun b => b.toNat != 46) = [] ∧ l.any (fun b => b.toNat == 46) = false := by
  induction l with
  | nil => simp
  | cons c l ih =>
    simp only [List.all_cons, Bool.and_eq_true] at h
    have hc : (c.toNat != 46) = true := by simpa using (isD_ne h.1).1
    have hc' : (c.toNat == 46) = false := by simpa using (isD_ne h.1).1
    obtain ⟨h1, h2, h3⟩ := ih h.2
    simp only [List.takeWhile_cons, List.dropWhile_cons, List.any_cons, hc, hc', if_true, h1, h2, h3]
    first | exact ⟨trivial, trivial, trivial⟩ | simp
theorem sign_digits {l : List UInt8} (h : l.all isD = true) (h0 : l ≠ []) (r : List UInt8) : signF (l ++ r) = (false, l ++ r) := by
  cases l with
  | nil => exact absurd rfl h0
  | cons c l =>
    simp only [List.all_cons, Bool.and_eq_true] at h
    obtain ⟨-, h1, h2⟩ := isD_ne h.1
    simp [signF, h1, h2]
theorem decDigits_pos (m : Nat) : 1 ≤ (Lib.decDigits m).length := by
  rw [Lib.decDigits]
  split <;> simp
/-- What is printed is read back. -/
theorem parse_format {n : Int} {s : Nat} (h : Rt n s) : parseF (formatF n s) = (n, (s : Int), 0) := by
  have hs9 : s ≤ 9 := by have := h.s9; omega
  have hX := digs_spec n.natAbs
  have gD := padD_Dg hX.2.1 s
  have hT := pad_same n.natAbs s
  have hDv : dval (padD (digs n.natAbs) s) = n.natAbs := by
    unfold padD
    rw [dval_app, dval_zeros, hX.1]
    simp
  have hDl := padD_len (digs n.natAbs) s
  obtain ⟨D, hD⟩ : ∃ D, D = padD (digs n.natAbs) s := ⟨_, rfl⟩
  rw [← hD] at gD hT hDv hDl
  have hall := chs_all gD
  have hrv := rv_chs gD
  have hcl := chs_len D
  have hfit : fitW (decide (n < 0)) n.natAbs s = (n, (s : Int), 0) := by
    refine fitW_exact _ _ _ hs9 n s h ?_
    rw [sgn_Z]
    unfold val9
    congr 2
    omega
  rw [hDv] at hrv
  obtain ⟨C, hC⟩ : ∃ C, C = chs D := ⟨_, rfl⟩
  rw [← hC] at hall hrv hcl hT
  -- the body
  have hbody : ∃ W P, (if s = 0 then Lib.decDigits n.natAbs else C.take (C.length - s) ++ [46] ++ C.drop (C.length - s)) = (if s = 0 then W else W ++ 46 :: P) ∧ W ++ P = C ∧ P.length = s ∧ W ≠ [] := by
    by_cases h0 : s = 0
    · subst h0
      have : padS (Lib.decDigits n.natAbs) 0 = Lib.decDigits n.natAbs := by
        have h1 := decDigits_pos n.natAbs
        unfold padS
        rw [if_neg (by omega)]
      rw [this] at hT
      exact ⟨C, [], by simp [hT], by simp, rfl, fun e => by rw [e] at hcl; simp at hcl; omega⟩
    · refine ⟨C.take (C.length - s), C.drop (C.length - s), by simp [h0], List.take_append_drop _ _, by rw [List.length_drop]; omega, fun e => ?_⟩
      have := congrArg List.length e
      simp at this
      omega
  obtain ⟨W, P, hb, hWP, hPs, hW0⟩ := hbody
  have hWa : W.all isD = true ∧ P.all isD = true := by rw [← hWP] at hall; exact all_app hall
  have hcut : Lib.cut (if s = 0 then W else W ++ 46 :: P) [46] = (W, P, decide (s ≠ 0)) := by
    rw [cut_point]
    by_cases h0 : s = 0
    · obtain ⟨t1, t2, t3⟩ := tw_none hWa.1
      have hP : P = [] := List.length_eq_zero_iff.1 (by omega)
      simp [h0, t1, t2, hP]
      simpa using t3
    · obtain ⟨t1, t2⟩ := tw_all (r := P) hWa.1
      simp only [h0, if_false, t1, t2]
      simp [h0]
  have hsign : signF (formatF n s) = (decide (n < 0), if s = 0 then W else W ++ 46 :: P) := by
    unfold formatF
    rw [hT, hb]
    by_cases hn : n < 0
    · simp [hn, signF]
    · simp only [hn, if_false, List.nil_append, decide_false]
      by_cases h0 : s = 0
      · simp only [h0, if_true]
        have := sign_digits hWa.1 hW0 []
        simpa using this
      · simp only [h0, if_false]
        exact sign_digits hWa.1 hW0 _
  unfold parseF
  rw [hsign]
  simp only [hcut, hWa.1, hWa.2, hWP, hPs, hrv]
  have hC0 : (C == []) = false := by
    cases hc : C with
    | nil => rw [hc] at hcl; simp at hcl; omega
    | cons a b => rfl
  rw [hC0]
  simp only [Bool.and_self, Bool.not_true, Bool.or_self, Bool.false_eq_true, if_false]
  rw [← hfit]
  congr 1
end Go.Proofs.YtaoobajokhcimaaGreatDoor
