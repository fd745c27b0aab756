/- slices.SortFunc of attributes; slices.Equal of attributes. -/
import Derived.Test.YtgdbbocfiejlfaaDoorDpK
import Derived.Test.YtgdbbocfiejlfaaDoorDpH
import Derived.Laws.StructEq
set_option linter.unusedSimpArgs false
set_option linter.unusedVariables false
set_option linter.constructorNameAsVariable false
namespace Go.Proofs.YtgdbbocfiejlfaaDoor
open Go.RowKit Go.Sort Go.Shelf Go.Lib

def encP (p : Pr) : List Value := [.string p.1, .string p.2]
instance : Inhabited Pr := ⟨(.empty, .empty)⟩
theorem lt_prC (x y : Pr) : ltOf prC x y = decide (prC x y < 0) := rfl
theorem swo_prC : SWO (ltOf prC) where
  irrefl x := by rw [lt_prC, prC_self]; rfl
  trans x y z h1 h2 := by
    rw [lt_prC, decide_eq_true_iff] at *
    exact (prC_trans (Int.le_of_lt h1) (Int.le_of_lt h2)).2.1 h1
  ntrans x y z h1 h2 := by
    rw [lt_prC, decide_eq_false_iff_not] at *
    have a : prC y x ≤ 0 := by rw [prC_neg]; omega
    have b : prC z y ≤ 0 := by rw [prC_neg]; omega
    have c := (prC_trans b a).1
    rw [prC_neg] at c
    omega
theorem tot_prC (x y : Pr) (h1 : ltOf prC x y = false) (h2 : ltOf prC y x = false) : x = y := by
  rw [lt_prC, decide_eq_false_iff_not] at h1 h2
  rw [prC_neg y x] at h2
  exact prC_zero (by omega)
theorem lays_prC (g off size : Nat) (w : World) : CmpLays Tryd.prog 26 #[] encP 2 prC g off size w := by
  intro m os dk _ x y
  have h := prcmp_any x y (sortWorldK encP 2 w g off m dk os)
  exact h.mono fun e w' ⟨h1, ⟨q, os', h2⟩⟩ => ⟨h1, q, os', h2⟩
/-- A block that holds attributes, and more behind. -/
def BlkP (w : World) (g : Nat) (ps : List Pr) : Prop := g < w.heap.size ∧ ∀ j u, (cellsP ps)[j]? = some u → w.cell? ⟨g, j, none⟩ = some u ∧ w.frozen? ⟨g, j, none⟩ = false
theorem flat_cells (ps : List Pr) : flatK encP 2 ps.toArray = (cellsP ps).toArray := by
  refine ext_get! (by simp [cellsP_len]) fun t ht => ?_
  have ht' : t < ps.length * 2 := by simpa using ht
  rw [get_flatK _ _ _ t (by simpa using ht')]
  have hk : t / 2 < ps.length := by omega
  obtain ⟨y0, y1⟩ := cellsP_at ps (t / 2) ps[t / 2] (List.getElem?_eq_getElem hk)
  have e : ps.toArray[t / 2]! = ps[t / 2] := by rw [getElem!_pos _ _ (by simpa using hk)]; simp
  rw [e]
  have hm : t % 2 = 0 ∨ t % 2 = 1 := by omega
  have hs : t < (cellsP ps).toArray.size := by simp [cellsP_len]; omega
  rw [getElem!_pos (cellsP ps).toArray t hs]
  have ht2 : t = t / 2 * 2 + t % 2 := by omega
  rcases hm with h | h
  · rw [h]
    rw [h, Nat.add_zero] at ht2
    rw [← ht2, List.getElem?_eq_getElem (by simpa using hs)] at y0
    have := Option.some.inj y0
    simp only [List.getElem_toArray]
    rw [this]
    rfl
  · rw [h]
    rw [h] at ht2
    rw [← ht2, List.getElem?_eq_getElem (by simpa using hs)] at y1
    have := Option.some.inj y1
    simp only [List.getElem_toArray]
    rw [this]
    rfl
theorem BlkP.holds {w : World} {g : Nat} {ps : List Pr} (h : BlkP w g ps) : HoldsK encP 2 w g 0 ps.toArray := by
  intro j hj
  rw [flat_cells] at hj ⊢
  rw [Nat.zero_add]
  have hj' : j < (cellsP ps).length := by simpa using hj
  obtain ⟨h1, h2⟩ := h.2 j (cellsP ps)[j] (List.getElem?_eq_getElem hj')
  refine ⟨?_, h2⟩
  rw [h1, getElem!_pos (cellsP ps).toArray j hj]
  simp
theorem BlkP.of {w : World} {g : Nat} {ps : List Pr} (hg : g < w.heap.size) (h : HoldsK encP 2 w g 0 ps.toArray) : BlkP w g ps := by
  refine ⟨hg, fun j u hu => ?_⟩
  have hj : j < (cellsP ps).length := by
    rcases Nat.lt_or_ge j (cellsP ps).length with h' | h'
    · exact h'
    · simp [List.getElem?_eq_none h'] at hu
  have := h j (by rw [flat_cells]; simpa using hj)
  rw [flat_cells, Nat.zero_add] at this
  refine ⟨?_, this.2⟩
  rw [this.1, getElem!_pos (cellsP ps).toArray j (by simpa using hj)]
  rw [List.getElem?_eq_getElem hj] at hu
  simpa using hu
theorem below_sortW (g : Nat) (w : World) (hg : g < w.heap.size) (n : Nat) (d : Array Pr) (os : Array Obj) : Below g w (sortWorldK encP 2 w g 0 n d os) := by
  refine ⟨rfl, rfl, rfl, ?_, fun i hi => ?_⟩
  · show _ ≤ ((putRowK encP 2 (Sort.ahead w n) g 0 d).heap ++ os).size
    have : (putRowK encP 2 (Sort.ahead w n) g 0 d).heap.size = w.heap.size := by unfold putRowK; rw [size_putRow]; rfl
    simp [this]
  · have hs : (putRowK encP 2 (Sort.ahead w n) g 0 d).heap.size = w.heap.size := by unfold putRowK; rw [size_putRow]; rfl
    show ((putRowK encP 2 (Sort.ahead w n) g 0 d).heap ++ os)[i]? = _
    have hlt : i < w.heap.size := by omega
    rw [Array.getElem?_append_left (by rw [hs]; exact hlt)]
    show (w.heap.modify g _)[i]? = _
    rw [Array.getElem?_modify, if_neg (by omega)]
/-- The row is sorted where it lies. -/
theorem sort_any (g cap : Nat) (ps : List Pr) (w : World) (hB : BlkP w g ps) (hl : ps.length ≤ 1000000) :
    Calls Tryd.prog 40 #[.slice (some ⟨g, 0, none⟩) ps.length cap, .func (.func 26) #[] #[]] w fun e w' => e = .returned (.tuple #[]) ∧ BlkP w' g (ps.mergeSort prLe) ∧ Below g w w' := by
  have eg : ∀ args w, (callFunc 26 args).run Tryd.prog w = .ok (.enter 26 args) w := enters_of Tryd.func26 (by kernel_rfl) rfl
  have hcon := AnyQ.slices_SortFunc_total Tryd.sortP 2 Tryd.isAgg33 Tryd.sizeOf33 encP (fun _ => rfl) (fun x v hv => by simp [encP] at hv; rcases hv with rfl | rfl <;> rfl) prC swo_prC 26 #[] g 0 cap ps.toArray w eg (lays_prC g 0 _ w) hB.holds hB.1 (by simp; omega) tot_prC
  change Calls Tryd.prog 40 _ _ _ at hcon
  rw [show ps.toArray.size = ps.length by simp] at hcon
  refine hcon.mono fun e w' ⟨he, n, os, hw⟩ => ⟨he, ?_, ?_⟩
  · have hH := holdsK_sortWorldK_c encP 2 w g 0 ps.toArray (ps.toArray.toList.mergeSort fun x y => !(ltOf prC) y x).toArray n os hB.holds hB.1 (by simp [List.length_mergeSort])
    rw [← hw, show ps.toArray.toList = ps by simp] at hH
    have hH2 : HoldsK encP 2 w' g 0 (ps.mergeSort prLe).toArray := hH
    refine BlkP.of ?_ hH2
    rw [hw]
    exact Nat.lt_of_lt_of_le hB.1 (size_sortWorldK_c encP 2 w g 0 n _ os)
  · rw [hw]
    exact below_sortW g w hB.1 n _ os
theorem neq_pair : NeqAt Tryd.prog 33 (fun x => .agg (encP x).toArray) (fun x y => decide (x = y)) := by
  refine ⟨fun x y w => ?_, GuardAt.agg _ (by kernel_rfl)⟩
  have hS : Tryd.prog.underlying 33 = some (.struct (Tryd.prog.fieldsOf 33)) := by kernel_rfl
  have hp : Tryd.prog.stoodInHeld 33 = false := by kernel_rfl
  simp only [encP]
  rw [run_neq_struct, show (10000 : Nat) = 9999 + 1 from rfl, run_equalIn_agg w 9999 33 _ _ hS hp]
  simp only [Program.fieldsOf, Tryd.underlying33]
  go_simp
  by_cases h1 : x.1 = y.1 <;> by_cases h2 : x.2 = y.2 <;> simp [h1, h2, Prod.ext_iff, tl_eq]
end Go.Proofs.YtgdbbocfiejlfaaDoor
