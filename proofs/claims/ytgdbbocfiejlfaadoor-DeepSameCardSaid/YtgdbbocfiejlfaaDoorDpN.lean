/- slices.IndexFunc and slices.DeleteFunc of an own row of trees, at the program's test. -/
import Derived.Test.YtgdbbocfiejlfaaDoorDpM
set_option linter.unusedSimpArgs false
set_option linter.unusedVariables false
set_option linter.constructorNameAsVariable false
namespace Go.Proofs.YtgdbbocfiejlfaaDoor
open Go.RowKit

/-- A block that holds these, and more behind. -/
def Blk5 (w : World) (g : Nat) (vs : List C5) (sz : Nat) : Prop := ∃ cur : Array Value, cur.size = sz ∧ Blk w g cur 26 ∧ cur.toList.take (vs.length * 5) = flat5 vs
theorem Blk5.lt {w : World} {g : Nat} {vs : List C5} {sz : Nat} (h : Blk5 w g vs sz) : g < w.heap.size := by
  obtain ⟨cur, -, h, -⟩ := h
  exact h.lt
theorem Blk5.below {w w' : World} {g n : Nat} {vs : List C5} {sz : Nat} (h : Blk5 w g vs sz) (hb : Below n w w') (hn : g < n) : Blk5 w' g vs sz := by
  obtain ⟨cur, h1, h2, h3⟩ := h
  exact ⟨cur, h1, h2.below hb hn, h3⟩
theorem Blk5.alloc {w : World} {g : Nat} {vs : List C5} {sz : Nat} (h : Blk5 w g vs sz) (o : Obj) : Blk5 (w.alloc o) g vs sz := by
  obtain ⟨cur, h1, h2, h3⟩ := h
  exact ⟨cur, h1, h2.alloc o, h3⟩
theorem Blk5.cells {w : World} {g : Nat} {vs : List C5} {sz : Nat} (h : Blk5 w g vs sz) (j : Nat) (c : C5) (hj : vs[j]? = some c) :
    (w.cell? ⟨g, j * 5, none⟩ = some c.c0 ∧ w.cell? ⟨g, j * 5 + 1, none⟩ = some c.c1 ∧ w.cell? ⟨g, j * 5 + 2, none⟩ = some c.c2 ∧ w.cell? ⟨g, j * 5 + 3, none⟩ = some c.c3 ∧ w.cell? ⟨g, j * 5 + 4, none⟩ = some c.c4) ∧ ∀ i, w.frozen? ⟨g, i, none⟩ = false := by
  obtain ⟨cur, h1, h2, h3⟩ := h
  obtain ⟨y0, y1, y2, y3, y4⟩ := flat5_at vs j c hj
  have hc : ∀ i x, (flat5 vs)[i]? = some x → w.cell? ⟨g, i, none⟩ = some x := fun i x hx => by
    rw [h2.cell i]
    rw [← h3, List.getElem?_take] at hx
    split at hx
    · simpa using hx
    · cases hx
  exact ⟨⟨hc _ _ y0, hc _ _ y1, hc _ _ y2, hc _ _ y3, hc _ _ y4⟩, fun i => h2.free i⟩
set_option maxRecDepth 100000 in
set_option maxHeartbeats 2000000 in
theorem index_any (g cap sz : Nat) (vs : List C5) (w : World) (hB : Blk5 w g vs sz) (hN : ∀ c ∈ vs, c.node) (hl : vs.length ≤ 9223372036854775807) :
    Calls Tryd.prog 43 #[.slice (some ⟨g, 0, none⟩) vs.length cap, .func (.func 31) #[] #[]] w fun e w' => (∃ r : Int, e = .returned (.int .i64 r) ∧ ((r = -1 ∧ ∀ c ∈ vs, c.kind ≠ 5) ∨ ∃ i : Nat, r = (i : Int) ∧ i < vs.length ∧ (∀ c ∈ vs.take i, c.kind ≠ 5) ∧ ∃ c, vs[i]? = some c ∧ c.kind = 5)) ∧ Below w.heap.size w w' := by
  have HB := Lib.hid hB
  have HN := Lib.hid hN
  obtain ⟨nv, hnv⟩ : ∃ nv, vs.length = nv := ⟨_, rfl⟩
  rw [hnv] at hl
  rw [hnv]
  have HV := Lib.hid hnv
  clear hB hN hnv
  go_enter Tryd.func43, Tryd.ntmps43
  go_wp2_with fail
  go_loopg [8] (nv + 1) (fun m jj wr => ∃ j : Nat, j ≤ nv ∧ m + j = nv + 1 ∧ jj = .int .i64 (j : Int) ∧ Below w.heap.size w wr ∧ Hid (∀ c ∈ vs.take j, c.kind ≠ 5))
  case atStart => exact ⟨0, by omega, by omega, rfl, Below.refl _ _, fun c hc => by simp at hc⟩
  case round =>
    obtain ⟨j, hj, hmj, rfl, hwr, HD⟩ := hrel
    have hj0 : (0 : Int) ≤ (j : Int) := Int.natCast_nonneg _
    by_cases hlt : j < nv
    · have i0 : decide ((j : Int) < (nv : Int)) = true := by simp; omega
      have i6 : (j : Int) < (nv : Int) := by omega
      obtain ⟨c, hjc⟩ : ∃ c, vs[j]? = some c := ⟨vs[j]'(by rw [HV.out]; exact hlt), by simp⟩
      obtain ⟨⟨u0, u1, u2, u3, u4⟩, -⟩ := (HB.out.below hwr HB.out.lt).cells j c hjc
      have kg := Nat.lt_of_lt_of_le HB.out.lt hwr.size
      have hNc := HN.out c (List.mem_of_getElem? hjc)
      have CD := Lib.hid (del_any c hNc wr)
      have HT := Lib.hid (take_one vs j c hjc)
      have HJ := Lib.hid hjc
      obtain ⟨c0, c1, c2, c3, c4⟩ := c
      obtain ⟨kk, hkk⟩ : ∃ kk, C5.kind ⟨c0, c1, c2, c3, c4⟩ = kk := ⟨_, rfl⟩
      rw [hkk] at CD
      have HKK := Lib.hid hkk
      simp only at u0 u1 u2 u3 u4
      unfold C5.arr at CD
      simp only at CD
      clear hjc hNc hkk
      cases ek : (kk == 5)
      · go_wp2_with (go_at_call 31; with_reducible refine CD.out.mono ?_; rintro e w5 ⟨rfl, hb5⟩
                     have hw5 := hwr.trans (hb5.mono hwr.size))
        go_roundg (gk - 1)
        case measure => omega
        case rel =>
          refine ⟨j + 1, by omega, by omega, by go_num, hw5, ?_⟩
          intro c hc
          rw [HT.out] at hc
          rcases List.mem_append.1 hc with h | h
          · exact HD.out c h
          · simp at h
            subst h
            rw [HKK.out]
            simpa using ek
      · go_wp2_with (go_at_call 31; with_reducible refine CD.out.mono ?_; rintro e w5 ⟨rfl, hb5⟩
                     have hw5 := hwr.trans (hb5.mono hwr.size))
        go_returns
        refine ⟨⟨(j : Int), rfl, .inr ⟨j, rfl, hlt, HD.out, _, HJ.out, ?_⟩⟩, hw5⟩
        rw [HKK.out]
        simpa using ek
    · have i0 : decide ((j : Int) < (nv : Int)) = false := by simp; omega
      have hd := HD.out
      rw [List.take_of_length_le (by rw [HV.out]; omega)] at hd
      clear HD
      go_wp2_with fail
      go_returns
      exact ⟨⟨-1, rfl, .inl ⟨rfl, hd⟩⟩, hwr⟩
end Go.Proofs.YtgdbbocfiejlfaaDoor
