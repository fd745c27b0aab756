/- slices.AppendSeq, Collect of attributes. -/
import Derived.Test.YtgdbbocfiejlfaaDoorDpS
set_option linter.unusedSimpArgs false
set_option linter.unusedVariables false
set_option linter.constructorNameAsVariable false
namespace Go.Proofs.YtgdbbocfiejlfaaDoor
open Go.RowKit Go.Shelf
attribute [local go_sem] Oper.semAt_some

set_option maxRecDepth 100000 in
set_option maxHeartbeats 1000000 in
theorem values1_zero (F : Fence) (n : Nat) (h7 : F.fn 41) (hro : F.round = none) (l Bs : Nat) (a : Option Addr) (c : Nat) (J : List Pr → World → Prop) (W : World) (hBs : W.cell? ⟨Bs, 0, none⟩ = some (.slice a 0 c)) (h0 : J [] W) :
    CallsIn F n Tryd.prog 41 #[.func (.yield l) #[] #[], .pointer (some ⟨Bs, 0, none⟩)] W fun e W' => (∃ v, e = .returned v) ∧ J [] W' := by
  refine callsIn_of_wp Tryd.func41 rfl h7 ?_ hro
  simp only [Tryd.ntmps41, List.size_toArray, List.length_cons, List.length_nil, Nat.reduceAdd, Nat.reduceSub, Array.replicate_succ, Array.replicate_zero, List.push_toArray, List.append_toArray, List.nil_append, List.cons_append]
  gi_wp2
  gi_loopw [7] (fun i wr => i = .int .i64 0 ∧ J [] wr) (fun _ _ => 0)
  case atStart => exact ⟨rfl, h0⟩
  case round =>
    obtain ⟨rfl, hJs⟩ := hrel
    gi_wp2
    go_end0
    exact ⟨⟨_, rfl⟩, hJs⟩
theorem values_stops (F : Fence) (n : Nat) (h7 : F.fn 41) (hro : F.round = none) (hn : 1 ≤ n) (Bs n₀ : Nat) (a : Option Addr) (c : Nat) (zs : List Pr) (hreach : zs.length ≤ 1000000) (w : World) (hBs : Bs < w.heap.size) (hn₀ : n₀ ≤ w.heap.size)
    (hc : w.cell? ⟨Bs, 0, none⟩ = some (.slice a zs.length c)) (hP : PRow (fun b => b < n₀) w a zs) :
    SeqStopsK F n Tryd.prog 41 #[.pointer (some ⟨Bs, 0, none⟩)] (fun x : Pr => #[.agg #[.string x.1, .string x.2]]) (Below n₀) (fun ys => ys = zs) (fun pre => pre <+: zs) zs.length w := fun l J Jx W hW hJ _ hY h0 => by
  have hc' := (hW.cell (p := ⟨Bs, 0, none⟩) hBs).trans hc
  rcases hP with rfl | ⟨b, off, rfl, hlt, hb, hcs⟩
  · exact (values1_zero F n h7 hro l Bs a c J W hc' h0).mono fun e W' ⟨he, hj⟩ => ⟨he, .inl ⟨_, rfl, hj⟩⟩
  · refine values1_in F n h7 hro hn l Bs n₀ b off c zs hreach hb J Jx hY W (fun pre A o _ hA => hJ pre A _ none hA (World.grownBy_alloc A o none) (fun r e => by cases e)) (Nat.le_trans hn₀ hW.size) hc' (fun j x hj => ?_) h0
    obtain ⟨y0, y1⟩ := hcs j x hj
    exact ⟨(hW.cell (p := ⟨b, off + j * 2, none⟩) hlt).trans y0, (hW.cell (p := ⟨b, off + j * 2 + 1, none⟩) hlt).trans y1⟩
theorem cellsP_snoc (xs : List Pr) (x : Pr) : cellsP (xs ++ [x]) = cellsP xs ++ [.string x.1, .string x.2] := by
  induction xs with
  | nil => rfl
  | cons p r ih => simp only [cellsP, List.cons_append, ih]
theorem blk_ownT (Bx : Nat) (t : TypeId) (cs : Array Value) (X Y : World) (row : Option Nat) (h : Blk X Bx cs t) (hg : X.grownBy Y row) (hr : ∀ r, row = some r → ∃ o : Obj, X.heap[r]? = some o ∧ o.isCells = false) : Blk Y Bx cs t := by
  unfold Blk at h ⊢
  rw [hg.block Bx (Blk.lt h) (fun e => by
    obtain ⟨o, ho, hc⟩ := hr Bx e.symm
    rw [h] at ho
    cases ho
    cases hc)]
  exact h
theorem news_two (W : World) (s t : ByteArray) : ∀ j u, [Value.string s, Value.string t][j]? = some u → (W.alloc (.cells #[.string s, .string t] 33)).cell? ((⟨W.heap.size, 0, none⟩ : Addr).add j) = some u := by
  intro j u hj
  rw [Addr.add_lit, Nat.zero_add, (Blk.new W #[.string s, .string t] 33).cell j]
  simpa using hj
set_option maxRecDepth 100000 in
set_option maxHeartbeats 2000000 in
theorem append_in (F : Fence) (n : Nat) (h3 : F.fn 49) (h7 : F.fn 41) (hro : F.round = none) (hn : 3 ≤ n) (Bs : Nat) (a : Option Addr) (c : Nat) (zs : List Pr) (hreach : zs.length ≤ 1000000) (w : World) (hBs : Bs < w.heap.size)
    (hc : w.cell? ⟨Bs, 0, none⟩ = some (.slice a zs.length c)) (hP : PRow (fun b => b < w.heap.size) w a zs) :
    CallsIn F n Tryd.prog 49 #[.slice none 0 0, .func (.func 41) #[] #[.pointer (some ⟨Bs, 0, none⟩)]] w fun e W' => ∃ v, e = .returned v ∧ W'.ownsRow w.heap.size 33 2 v zs.length (cellsP zs) ∧ Below w.heap.size w W' := by
  have h1 : 1 ≤ n := by omega
  obtain ⟨i0, hi, hz0, hz1, hz2⟩ := info_parts infoP
  refine callsIn_of_wp_marks Tryd.func49 rfl h3 ?_ hro
  simp only [Tryd.ntmps49, List.size_toArray, List.length_cons, List.length_nil, Nat.reduceAdd, Nat.reduceSub, Array.replicate_succ, Array.replicate_zero, List.push_toArray, List.append_toArray, List.nil_append, List.cons_append]
  gi_wp2
  have bO := Boxed.new w 23 (.slice none 0 0)
  have hB0 : Below w.heap.size w (w.alloc (.cells #[.slice none 0 0] 23)) := (Below.refl _ w).alloc (Nat.le_refl _) _
  have hsz : (w.alloc (.cells #[.slice none 0 0] 23)).heap.size = w.heap.size + 1 := by simp
  have hc0 := (hB0.cell (p := ⟨Bs, 0, none⟩) hBs).trans hc
  have hP0 := hP.on (T := fun b => b < w.heap.size) (kept_of hB0) fun b h _ => h
  obtain ⟨W0, hW0⟩ : ∃ W0, w.alloc (.cells #[.slice none 0 0] 23) = W0 := ⟨_, rfl⟩
  rw [hW0] at bO hB0 hsz hc0 hP0 ⊢
  clear hW0
  refine wpIn_rangeFunc_ownH hro h1 (gf := 41) (lb := #[.pointer (some ⟨Bs, 0, none⟩)]) rfl h7 (enters_of Tryd.func41 (by kernel_rfl) rfl)
    (values_stops F (n - 1) h7 hro (by omega) Bs w.heap.size a c zs hreach W0 (by omega) (by omega) hc0 hP0) belowK_t (belowK_b (by omega)) (Below.refl _ _) (fun _ => rfl)
    (fun pre W => (∃ v, Boxed W w.heap.size 23 v ∧ W.ownsRow w.heap.size 33 2 v pre.length (cellsP pre) ∧ True) ∧ Below w.heap.size w W)
    (fun _ _ _ => False)
    (OwnFrom.and (Own.from (holdsRow_own w.heap.size w.heap.size 23 33 2 (fun pre : List Pr => pre.length) (fun pre => cellsP pre) (fun _ _ => True)) _) (ownFrom_below (Nat.le_refl _) (by omega)))
    (fun _ _ _ _ _ hs _ _ => hs)
    ⟨⟨_, bO, World.ownsRow_nil _ _ _ _, trivial⟩, hB0⟩
    (fun x a' W => ∃ Bx, w.heap.size < Bx ∧ Blk W Bx #[.string x.1, .string x.2] 33 ∧ a' = { tmps := #[.slice none 0 0, .func (.func 41) #[] #[.pointer (some ⟨Bs, 0, none⟩)], .pointer (some ⟨w.heap.size, 0, none⟩), undef, .slice none 0 0, .pointer (some ⟨Bx, 0, none⟩), .func (.func 41) #[] #[.pointer (some ⟨Bs, 0, none⟩)], .agg #[.string x.1, .string x.2], undef, undef, undef, undef, undef], defers := [] })
    (fun x a' _ X Y row hs hg hr => by obtain ⟨Bx, h1, h2, h3⟩ := hs; exact ⟨Bx, h1, blk_ownT Bx _ _ X Y row h2 hg (fun r e => (hr r e).2), h3⟩)
    ?assign ?body ?done ?stop
  case assign =>
    rintro l pre x W K ⟨⟨v, hv, hrow, -⟩, hB1⟩ hK
    gi_wp2
    exact hK _ _ ((KeepsOthers.alloc _ _).from _) ((Below.refl _ W).alloc hB1.size _) ⟨⟨v, hv.alloc _, hrow.alloc _, trivial⟩, hB1.alloc hB1.size _⟩ ⟨W.heap.size, hv.lt, World.alloc_heap_new W _, rfl⟩
  case body =>
    rintro l pre x a' W hl ⟨r, hr⟩ ⟨⟨v, hv, hrow, -⟩, hB⟩ ⟨Bx, hBx, bX, rfl⟩ hlt
    have hc := hv.cell
    obtain ⟨⟨q0, q1⟩, -⟩ := bX.two2
    obtain ⟨x1, x2⟩ := x
    simp only at q0 q1
    gi_wp2_with (gi_at_builtin; refine wpListIn_append_own _ rfl _ _ 23 rfl w.heap.size 33 i0 (.agg #[.string .empty, .string .empty]) 2 32 Tryd.underlying23 hi hz0 hz1 hz2 rfl (by decide) _ _ _ rfl (hrow.alloc _) ⟨W.heap.size, 0, none⟩ 1 1 [.string x1, .string x2] rfl rfl (news_two W x1 x2) (by simp [Value.oneCell']) (by unfold maxLen; omega) (by omega) (by have := hB.size; simp; omega) ?_; intro v' w1 hown' hgrow _; obtain ⟨g', cap', rfl⟩ := ownsRow_succ hown'; obtain ⟨hv1, hv2, hr2, hk2, hb2⟩ := hv.appended (by decide) hrow hB.size (Nat.le_refl _) hown' hgrow; have hc1 := hv1.cell; have hf1 := hv1.frozen)
    have hr3 : (w1.setCell ⟨w.heap.size, 0, none⟩ (.slice (some ⟨g', 0, none⟩) (pre.length + 1) cap')).ownsRow w.heap.size 33 2 (.slice (some ⟨g', 0, none⟩) (pre.length + 1) cap') (pre ++ [(x1, x2)]).length (cellsP (pre ++ [(x1, x2)])) := by
      rw [cellsP_snoc, List.length_append]; exact hr2
    exact ⟨hk2.from _, hb2, ⟨_, hv2, hr3⟩, hB.trans hb2⟩
  case done =>
    rintro D ys W hD rfl ⟨⟨v, hv, hrow, -⟩, hB⟩ hK
    have hc := hv.cell
    gi_wp2
    refine ⟨by simp, .inl ⟨_, _, rfl, run_takeDeferred hK, ?_⟩⟩
    exact ⟨_, results_tmp rfl _ _ _, v, rfl, ownsRow_putObj hrow _ hK rfl, hB.trans (belowK_b (w := w) (Nat.le_refl _) W D _ _ (by omega) hK rfl rfl)⟩
  case stop =>
    rintro D c pre W _ _ h _
    exact h.elim
end Go.Proofs.YtgdbbocfiejlfaaDoor
