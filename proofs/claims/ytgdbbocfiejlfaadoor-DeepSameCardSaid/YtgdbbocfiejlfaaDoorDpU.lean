/- Collect, SortedFunc, deep.sorted, slices.Equal of attributes. -/
import Derived.Test.YtgdbbocfiejlfaaDoorDpT
import Derived.Test.YtgdbbocfiejlfaaDoorDpQ
import Derived.Shelf.SlSortCmp.NoneTotal
set_option linter.unusedSimpArgs false
set_option linter.unusedVariables false
set_option linter.constructorNameAsVariable false
namespace Go.Proofs.YtgdbbocfiejlfaaDoor
open Go.RowKit Go.Shelf

theorem blkP_of_own {w : World} {base : Nat} {v : Value} {zs : List Pr} (h : w.ownsRow base 33 2 v zs.length (cellsP zs)) (hz : zs ≠ []) : ∃ g cap, v = .slice (some ⟨g, 0, none⟩) zs.length cap ∧ base ≤ g ∧ BlkP w g zs := by
  rcases h.2 with ⟨rfl, h0⟩ | ⟨g, cap, cur, rfl, hg, hB, hl, hm, hs, ht⟩
  · cases zs with
    | nil => exact absurd rfl hz
    | cons _ _ => cases h0
  · refine ⟨g, cap, rfl, hg, (Array.getElem?_eq_some_iff.1 hB).1, fun j u hu => ?_⟩
    have hj : cur[j]? = some u := by
      rw [← ht, List.getElem?_take] at hu
      split at hu
      · simpa using hu
      · cases hu
    exact ⟨(Blk.cell hB j).trans hj, Blk.free hB j⟩
theorem append_any (Bs : Nat) (a : Option Addr) (c : Nat) (zs : List Pr) (hreach : zs.length ≤ 1000000) (w : World) (hBs : Bs < w.heap.size)
    (hc : w.cell? ⟨Bs, 0, none⟩ = some (.slice a zs.length c)) (hP : PRow (fun b => b < w.heap.size) w a zs) :
    Calls Tryd.prog 49 #[.slice none 0 0, .func (.func 41) #[] #[.pointer (some ⟨Bs, 0, none⟩)]] w fun e W' => ∃ v, e = .returned v ∧ W'.ownsRow w.heap.size 33 2 v zs.length (cellsP zs) ∧ Below w.heap.size w W' :=
  callsIn_wide.1 (append_in Fence.wide 3 trivial trivial rfl (Nat.le_refl _) Bs a c zs hreach w hBs hc hP)
theorem collect_any (Bs : Nat) (a : Option Addr) (c : Nat) (zs : List Pr) (hreach : zs.length ≤ 1000000) (w : World) (hBs : Bs < w.heap.size)
    (hc : w.cell? ⟨Bs, 0, none⟩ = some (.slice a zs.length c)) (hP : PRow (fun b => b < w.heap.size) w a zs) :
    Calls Tryd.prog 39 #[.func (.func 41) #[] #[.pointer (some ⟨Bs, 0, none⟩)]] w fun e W' => ∃ v, e = .returned v ∧ W'.ownsRow w.heap.size 33 2 v zs.length (cellsP zs) ∧ Below w.heap.size w W' := by
  have AA := Lib.hid (append_any Bs a c zs hreach w hBs hc hP)
  clear hc hP hBs
  go_enter Tryd.func39, Tryd.ntmps39
  go_wp2_with fail
  with_reducible refine AA.out.mono ?_
  rintro e w1 ⟨v, rfl, h1, h2⟩
  go_wp2_with fail
  go_ret
  exact ⟨v, rfl, h1, h2⟩
theorem BlkP.row {w : World} {g : Nat} {ps : List Pr} (h : BlkP w g ps) : PRow All w (some ⟨g, 0, none⟩) ps := by
  refine .inr ⟨g, 0, rfl, h.1, trivial, fun j x hj => ?_⟩
  obtain ⟨y0, y1⟩ := cellsP_at ps j x hj
  rw [Nat.zero_add]
  exact ⟨(h.2 _ _ y0).1, (h.2 _ _ y1).1⟩
theorem sortedf_any (Bs : Nat) (a : Option Addr) (c : Nat) (zs : List Pr) (hreach : zs.length ≤ 1000000) (w : World) (hBs : Bs < w.heap.size)
    (hc : w.cell? ⟨Bs, 0, none⟩ = some (.slice a zs.length c)) (hP : PRow (fun b => b < w.heap.size) w a zs) :
    Calls Tryd.prog 24 #[.func (.func 41) #[] #[.pointer (some ⟨Bs, 0, none⟩)], .func (.func 26) #[] #[]] w fun e W' => (∃ a' c', e = .returned (.slice a' zs.length c') ∧ PRow All W' a' (zs.mergeSort prLe)) ∧ Below w.heap.size w W' := by
  have AA := Lib.hid (collect_any Bs a c zs hreach w hBs hc hP)
  clear hc hP hBs
  go_enter Tryd.func24, Tryd.ntmps24
  go_wp2_with fail
  with_reducible refine AA.out.mono ?_
  rintro e w1 ⟨v, rfl, h1, h2⟩
  by_cases hz : zs = []
  · subst hz
    obtain ⟨p, cp, rfl⟩ : ∃ p cp, v = .slice p 0 cp := by
      rcases h1.2 with ⟨rfl, -⟩ | ⟨g, cap, cur, rfl, -⟩
      · exact ⟨_, _, rfl⟩
      · exact ⟨_, _, rfl⟩
    have SS := AnyF.slices_SortFunc_none (P := Tryd.prog) { Tryd.sortP with } p cp (.func (.func 26) #[] #[]) w1
    change Calls Tryd.prog 40 _ _ _ at SS
    go_wp2_with fail
    with_reducible refine SS.mono ?_
    rintro e w2 ⟨rfl, rfl⟩
    go_wp2_with fail
    go_ret
    exact ⟨⟨_, _, rfl, .inl (by simp)⟩, h2⟩
  · obtain ⟨g, cap, rfl, hg, hB⟩ := blkP_of_own h1 hz
    have SS := Lib.hid (sort_any g cap zs w1 hB hreach)
    clear hB
    go_wp2_with fail
    with_reducible refine SS.out.mono ?_
    rintro e w2 ⟨rfl, hB2, hb2⟩
    go_wp2_with fail
    go_ret
    exact ⟨⟨_, _, rfl, hB2.row⟩, h2.trans (hb2.mono hg)⟩
theorem values_any (a : Option Addr) (n c : Nat) (w : World) :
    Calls Tryd.prog 25 #[.slice a n c] w fun e W' => e = .returned (.func (.func 41) #[] #[.pointer (some ⟨w.heap.size, 0, none⟩)]) ∧ W' = w.alloc (.cells #[.slice a n c] 23) := by
  go_enter Tryd.func25, Tryd.ntmps25
  go_wp2_with fail
  go_ret
  exact ⟨rfl, rfl⟩
theorem sorted_any (a : Option Addr) (c : Nat) (zs : List Pr) (hreach : zs.length ≤ 1000000) (w : World) (hP : PRow All w a zs) :
    Calls Tryd.prog 15 #[.slice a zs.length c] w fun e W' => (∃ a' c', e = .returned (.slice a' zs.length c') ∧ PRow All W' a' (zs.mergeSort prLe)) ∧ Below w.heap.size w W' := by
  have hP1 : PRow (fun b => b < (w.alloc (.cells #[.slice a zs.length c] 23)).heap.size) (w.alloc (.cells #[.slice a zs.length c] 23)) a zs :=
    hP.on (kept_of ((Below.refl _ w).alloc (Nat.le_refl _) _)) fun b _ h => by simp; omega
  have SS := Lib.hid (sortedf_any w.heap.size a c zs hreach _ (by simp) (Boxed.new w 23 _).cell hP1)
  have VV := Lib.hid (values_any a zs.length c w)
  clear hP1 hP
  go_enter Tryd.func15, Tryd.ntmps15
  go_wp2_with fail
  with_reducible refine VV.out.mono ?_
  rintro e w1 ⟨rfl, rfl⟩
  go_wp2_with fail
  with_reducible refine SS.out.mono ?_
  rintro e w1 ⟨⟨a', c', rfl, hR⟩, hb⟩
  go_wp2_with fail
  go_ret
  exact ⟨⟨_, _, rfl, hR⟩, ((Below.refl _ w).alloc (Nat.le_refl _) _).trans (hb.mono (by simp))⟩
end Go.Proofs.YtgdbbocfiejlfaaDoor
