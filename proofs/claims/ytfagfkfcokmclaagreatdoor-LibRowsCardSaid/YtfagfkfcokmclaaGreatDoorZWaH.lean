/- Two numbers brought to as many digits behind the point. -/
import Derived.Test.YtfagfkfcokmclaaGreatDoorZWaF
import Derived.Test.YtfagfkfcokmclaaGreatDoorZWaG
import Derived.Test.YtfagfkfcokmclaaGreatDoorZMgC
import Derived.Test.YtfagfkfcokmclaaGreatDoorZWaE0
set_option linter.unusedSimpArgs false
set_option linter.unusedVariables false
namespace Go.Proofs.YtfagfkfcokmclaaGreatDoor
open Go.RowKit

theorem wp_worldT {P : Program} {c : Code} {Q : Exit → Act → World → Prop} {a : Act} {w : World} (h : ∀ W, W = w → c.wp P Q a W) : c.wp P Q a w := h w rfl
theorem clean_right {n s : Int} (h : Rt n s) (w : World) : Calls Tryz.prog 135 #[.agg #[.int .i64 n, .int .i64 s]] w fun e w' => e = .returned (.agg #[.int .i64 n, .int .i64 s]) ∧ Below w.heap.size w w' := by
  have := clean_any n s w
  unfold cleanN cleanS at this
  rw [(rightF_iff n s).2 h] at this
  exact this
/-- Two boxes are filled, once or again, with what is to stand in them; all else that was there stays. -/
structure RW (S p1 p2 : Nat) (t : TypeId) (f1 f2 : Array Value) (w w' : World) : Prop where
  bl : Below S w w'
  kp : ∀ b, b < w.heap.size → b ≠ p1 → b ≠ p2 → w'.heap[b]? = w.heap[b]?
  k1 : (∃ a b c, Blk w p1 #[a, b, c] t) → ∃ a b c, Blk w' p1 #[a, b, c] t
  k2 : (∃ a b c, Blk w p2 #[a, b, c] t) → ∃ a b c, Blk w' p2 #[a, b, c] t
  g1 : Blk w p1 f1 t → Blk w' p1 f1 t
  g2 : Blk w p2 f2 t → Blk w' p2 f2 t
section
variable {S p1 p2 : Nat} {t : TypeId} {f1 f2 : Array Value}
theorem RW.refl (w : World) : RW S p1 p2 t f1 f2 w w := ⟨Below.refl _ _, fun _ _ _ _ => rfl, id, id, id, id⟩
theorem RW.trans : ∀ a b c, RW S p1 p2 t f1 f2 a b → RW S p1 p2 t f1 f2 b c → RW S p1 p2 t f1 f2 a c := fun a b c h1 h2 =>
  ⟨h1.bl.trans h2.bl, fun k hk n1 n2 => by rw [h2.kp k (Nat.lt_of_lt_of_le hk h1.bl.size) n1 n2, h1.kp k hk n1 n2], fun h => h2.k1 (h1.k1 h), fun h => h2.k2 (h1.k2 h), fun h => h2.g1 (h1.g1 h), fun h => h2.g2 (h1.g2 h)⟩
theorem RW.drew (w : World) : RW S p1 p2 t f1 f2 w { w with drawn := w.drawn + 1 } := ⟨(Below.refl _ _).drew, fun _ _ _ _ => rfl, id, id, id, id⟩
theorem RW.ofBelow {w w' : World} (hb : Below w.heap.size w w') (hS : S ≤ w.heap.size) : RW S p1 p2 t f1 f2 w w' :=
  ⟨hb.mono hS, fun b hb' _ _ => hb.block b hb', fun ⟨a, b, c, h⟩ => ⟨a, b, c, h.below hb h.lt⟩, fun ⟨a, b, c, h⟩ => ⟨a, b, c, h.below hb h.lt⟩, fun h => h.below hb h.lt, fun h => h.below hb h.lt⟩
theorem RW.cells {w w' : World} (h : RW S p1 p2 t f1 f2 w w') : ∀ b o, b < w.heap.size → b ≠ p1 → b ≠ p2 → w'.cell? ⟨b, o, none⟩ = w.cell? ⟨b, o, none⟩ := fun b o hb n1 n2 => by
  have := h.kp b hb n1 n2
  unfold World.cell?
  simp only [this]
theorem RW.put1 {w : World} {a b c x y z : Value} (hf : f1 = #[x, y, z]) (h : Blk w p1 #[a, b, c] t) (hS : S ≤ p1) (hn : p1 ≠ p2) :
    RW S p1 p2 t f1 f2 w (((w.setCell ⟨p1, 0, none⟩ x).setCell ⟨p1, 1, none⟩ y).setCell ⟨p1, 2, none⟩ z) ∧ Blk (((w.setCell ⟨p1, 0, none⟩ x).setCell ⟨p1, 1, none⟩ y).setCell ⟨p1, 2, none⟩ z) p1 f1 t := by
  subst hf
  have hB : Blk (((w.setCell ⟨p1, 0, none⟩ x).setCell ⟨p1, 1, none⟩ y).setCell ⟨p1, 2, none⟩ z) p1 #[x, y, z] t := ((h.set 0 _).set 1 _).set 2 _
  refine ⟨⟨(((Below.refl _ _).setCell (by simpa using hS) _).setCell (by simpa using hS) _).setCell (by simpa using hS) _, fun k hk n1 n2 => ?_, fun _ => ⟨_, _, _, hB⟩, fun ⟨a', b', c', h'⟩ => ⟨a', b', c', ((h'.other (Ne.symm hn) _).other (Ne.symm hn) _).other (Ne.symm hn) _⟩, fun _ => hB, fun h' => ((h'.other (Ne.symm hn) _).other (Ne.symm hn) _).other (Ne.symm hn) _⟩, hB⟩
  rw [Below.heap_setCell _ _ _ _ n1, Below.heap_setCell _ _ _ _ n1, Below.heap_setCell _ _ _ _ n1]
theorem RW.put2 {w : World} {a b c x y z : Value} (hf : f2 = #[x, y, z]) (h : Blk w p2 #[a, b, c] t) (hS : S ≤ p2) (hn : p1 ≠ p2) :
    RW S p1 p2 t f1 f2 w (((w.setCell ⟨p2, 0, none⟩ x).setCell ⟨p2, 1, none⟩ y).setCell ⟨p2, 2, none⟩ z) ∧ Blk (((w.setCell ⟨p2, 0, none⟩ x).setCell ⟨p2, 1, none⟩ y).setCell ⟨p2, 2, none⟩ z) p2 f2 t := by
  subst hf
  have hB : Blk (((w.setCell ⟨p2, 0, none⟩ x).setCell ⟨p2, 1, none⟩ y).setCell ⟨p2, 2, none⟩ z) p2 #[x, y, z] t := ((h.set 0 _).set 1 _).set 2 _
  refine ⟨⟨(((Below.refl _ _).setCell (by simpa using hS) _).setCell (by simpa using hS) _).setCell (by simpa using hS) _, fun k hk n1 n2 => ?_, fun ⟨a', b', c', h'⟩ => ⟨a', b', c', ((h'.other hn _).other hn _).other hn _⟩, fun _ => ⟨_, _, _, hB⟩, fun h' => ((h'.other hn _).other hn _).other hn _, fun _ => hB⟩, hB⟩
  rw [Below.heap_setCell _ _ _ _ n2, Below.heap_setCell _ _ _ _ n2, Below.heap_setCell _ _ _ _ n2]
def MPg1 : RR.MP (RW S p1 p2 t f1 f2) := ⟨fun _ w => Blk w p1 f1 t, fun _ _ _ h hr => hr.g1 h⟩
def MPg2 : RR.MP (RW S p1 p2 t f1 f2) := ⟨fun _ w => Blk w p2 f2 t, fun _ _ _ h hr => hr.g2 h⟩
end
set_option linter.constructorNameAsVariable false in
set_option maxHeartbeats 2000000 in
theorem level_any (n k : Int) (s t : Nat) (ha : Rt n s) (hB : Rt k t) (w : World) :
    Calls Tryz.prog 132 #[.agg #[.int .i64 n, .int .i64 (s : Int)], .agg #[.int .i64 k, .int .i64 (t : Int)]] w fun e w' =>
      e = .returned (.tuple #[.agg #[.bool (decide (n < 0)), .int .u64 ((hiN (n.natAbs * powN (max s t - s)) : Nat) : Int), .int .u64 ((loN (n.natAbs * powN (max s t - s)) : Nat) : Int)],
        .agg #[.bool (decide (k < 0)), .int .u64 ((hiN (k.natAbs * powN (max s t - t)) : Nat) : Int), .int .u64 ((loN (k.natAbs * powN (max s t - t)) : Nat) : Int)], .int .i64 ((max s t : Nat) : Int)]) ∧ Below w.heap.size w w' := by
  have CA := Lib.hid (fun w => clean_right ha w)
  have CB := Lib.hid (fun w => clean_right hB w)
  go_enter Tryz.func132, Tryz.ntmps132
  go_wp2_with fail
  refine region_steps 4 [some 8, some 9, some 10, some 11] (by kernel_rfl) (by kernel_rfl) ?_
  -- 0: Op.load 106 (Operand.tmp 2)
  apply ls_val
  · intro x w' hb hpre K hK
    have hc := (bcell hb).1
    clear hpre
    simp only [frL, Act.put, List.setIfInBounds_toArray, List.set_cons_zero, List.set_cons_succ, Nat.zero_add, Nat.reduceAdd] at hK ⊢
    have HK := Lib.hid hK
    clear hK
    refine Held.mk ?_
    go_simp
    exact HK.out _ (Below.refl _ _)
  -- 1: Op.call { callee := Callee.value (Operand.func 135), args := #[Operand.tmp 8], argTypes :=
  apply ls_val
  · intro x w' hb hpre K hK
    have hc := (bcell hb).1
    simp [preds, Region.binds, phi, MP.val, MP.box, MP.row] at hpre
    simp only [frL, Act.put, List.setIfInBounds_toArray, List.set_cons_zero, List.set_cons_succ, Nat.zero_add, Nat.reduceAdd, hpre] at hK ⊢
    have HK := Lib.hid hK
    clear hK
    refine Held.mk ?_
    go_simp
    (with_reducible refine (CA.out _).mono ?_)
    rintro e w1 ⟨rfl, hb1⟩
    dsimp only
    exact HK.out _ hb1
  -- 2: Op.load 106 (Operand.tmp 3)
  apply ls_val
  · intro x w' hb hpre K hK
    have hc := (bcell hb).1
    clear hpre
    simp only [frL, Act.put, List.setIfInBounds_toArray, List.set_cons_zero, List.set_cons_succ, Nat.zero_add, Nat.reduceAdd] at hK ⊢
    have HK := Lib.hid hK
    clear hK
    refine Held.mk ?_
    go_simp
    exact HK.out _ (Below.refl _ _)
  -- 3: Op.call { callee := Callee.value (Operand.func 135), args := #[Operand.tmp 10], argTypes :
  apply ls_val
  · intro x w' hb hpre K hK
    have hc := (bcell hb).1
    simp [preds, Region.binds, phi, MP.val, MP.box, MP.row] at hpre
    simp only [frL, Act.put, List.setIfInBounds_toArray, List.set_cons_zero, List.set_cons_succ, Nat.zero_add, Nat.reduceAdd, hpre] at hK ⊢
    have HK := Lib.hid hK
    clear hK
    refine Held.mk ?_
    go_simp
    (with_reducible refine (CB.out _).mono ?_)
    rintro e w1 ⟨rfl, hb1⟩
    dsimp only
    exact HK.out _ hb1
  intro x w' hb hp
  simp only [List.cons_append, List.nil_append, phis, MP.val, MP.box, MP.row, frL, Act.put, List.setIfInBounds_toArray, List.set_cons_zero, List.set_cons_succ, Nat.zero_add, Nat.reduceAdd] at hp ⊢
  obtain ⟨h0, h1, h2, h3, -⟩ := hp
  simp only [h0, h1, h2, h3]
  clear h0 h1 h2 h3
  have E0 : Blk w' w.heap.size #[.int .i64 n, .int .i64 (s : Int)] 106 := (Blk.alloc (Blk.alloc (Blk.alloc (Blk.here rfl rfl) _) _) _).below hb (by simp; omega)
  have E1 : Blk w' (w.heap.size + 1) #[.int .i64 k, .int .i64 (t : Int)] 106 := (Blk.alloc (Blk.alloc (Blk.here rfl (by simp)) _) _).below hb (by simp)
  have E2 : Blk w' (w.heap.size + 1 + 1) #[.bool false, .int .u64 0, .int .u64 0] 170 := (Blk.alloc (Blk.here rfl (by simp)) _).below hb (by simp)
  have E3 : Blk w' (w.heap.size + 1 + 1 + 1) #[.bool false, .int .u64 0, .int .u64 0] 170 := (Blk.here rfl (by simp)).below hb (by simp)
  have hw : Below w.heap.size w w' := Below.trans (by go_grown) (hb.mono (by simp; omega))
  clear hb
  obtain ⟨c00, c01, f00, f01⟩ := E0.two
  obtain ⟨c10, c11, f10, f11⟩ := E1.two
  go_upto_region 3 with fail
  have hmx : (max (s : Int) (t : Int)) = ((max s t : Nat) : Int) := by omega
  have hs9 : s ≤ 9 := by have := ha.s9; omega
  have ht9 : t ≤ 9 := by have := hB.s9; omega
  rw [hmx]
  obtain ⟨M, hM⟩ : ∃ M, M = max s t := ⟨_, rfl⟩
  rw [← hM]
  obtain ⟨d1, hd1⟩ : ∃ d, d = M - s := ⟨_, rfl⟩
  obtain ⟨d2, hd2⟩ : ∃ d, d = M - t := ⟨_, rfl⟩
  have g1 : IntKind.i64.wrap ((M : Int) - (s : Int)) = (d1 : Int) := by rw [IntKind.wrap_i64]; omega
  have g2 : IntKind.i64.wrap ((M : Int) - (t : Int)) = (d2 : Int) := by rw [IntKind.wrap_i64]; omega
  have WA := Lib.hid (fun w => widen_any n d1 (by omega) (by have := ha.lo; omega) (by have := ha.hi; omega) w)
  have WB := Lib.hid (fun w => widen_any k d2 (by omega) (by have := hB.lo; omega) (by have := hB.hi; omega) w)
  have HD1 := Lib.hid hd1
  have HD2 := Lib.hid hd2
  clear hd1 hd2
  refine wp_worldT ?_
  intro w2 hw2
  have F0 : Blk w2 w.heap.size #[.int .i64 n, .int .i64 (s : Int)] 106 := by rw [hw2]; exact (((E0.set 0 _).set 1 _).other (by simp) _).other (by simp) _
  have F1 : Blk w2 (w.heap.size + 1) #[.int .i64 k, .int .i64 (t : Int)] 106 := by rw [hw2]; exact (((E1.other (by simp) _).other (by simp) _).set 0 _).set 1 _
  have F2 : Blk w2 (w.heap.size + 1 + 1) #[.bool false, .int .u64 0, .int .u64 0] 170 := by rw [hw2]; exact (((E2.other (by simp; try omega) _).other (by simp; try omega) _).other (by simp; try omega) _).other (by simp; try omega) _
  have F3 : Blk w2 (w.heap.size + 1 + 1 + 1) #[.bool false, .int .u64 0, .int .u64 0] 170 := by rw [hw2]; exact (((E3.other (by simp; try omega) _).other (by simp; try omega) _).other (by simp; try omega) _).other (by simp; try omega) _
  have hv : Below w.heap.size w w2 := by rw [hw2]; exact (((hw.setCell (by simp) _).setCell (by simp) _).setCell (by simp) _).setCell (by simp) _
  have hHM := Lib.hid hM
  clear hw2 c00 c01 c10 c11 f00 f01 f10 f11 E0 E1 E2 E3 hw w' x hM hmx CA CB
  obtain ⟨c00, c01, -, -⟩ := F0.two
  obtain ⟨c10, c11, -, -⟩ := F1.two
  have l0 : w.heap.size < w2.heap.size := F0.lt
  have l1 : w.heap.size + 1 < w2.heap.size := F1.lt
  have lS : w.heap.size ≤ w2.heap.size := Nat.le_of_lt l0
  obtain ⟨A1, hA1⟩ : ∃ A : Array Value, A = #[.bool (decide (n < 0)), .int .u64 ((hiN (n.natAbs * powN d1) : Nat) : Int), .int .u64 ((loN (n.natAbs * powN d1) : Nat) : Int)] := ⟨_, rfl⟩
  obtain ⟨A2, hA2⟩ : ∃ A : Array Value, A = #[.bool (decide (k < 0)), .int .u64 ((hiN (k.natAbs * powN d2) : Nat) : Int), .int .u64 ((loN (k.natAbs * powN d2) : Nat) : Int)] := ⟨_, rfl⟩
  have HA1 := Lib.hid hA1
  have HA2 := Lib.hid hA2
  clear hA1 hA2
  refine RR.region_steps (R := RW w.heap.size (w.heap.size + 1 + 1) (w.heap.size + 1 + 1 + 1) 170 A1 A2) 18 [some 17, some 18, some 19, some 20, some 21, some 22, some 23, some 24, some 25, some 26, some 27, some 28, some 29, some 30, some 31, none, none, some 6] RW.trans RW.drew (by kernel_rfl) (by kernel_rfl) ?_
  -- 0: Op.fieldAddr 106 (Operand.tmp 2) 0
  apply RR.ls_val
  · intro x w' hb hpre K hK
    have z00 := (hb.cells _ 0 l0 (by omega) (by omega)).trans c00
    have z01 := (hb.cells _ 1 l0 (by omega) (by omega)).trans c01
    have z10 := (hb.cells _ 0 l1 (by omega) (by omega)).trans c10
    have z11 := (hb.cells _ 1 l1 (by omega) (by omega)).trans c11
    clear hpre
    simp only [frL, Act.put, List.setIfInBounds_toArray, List.set_cons_zero, List.set_cons_succ, Nat.zero_add, Nat.reduceAdd] at hK ⊢
    have HK := Lib.hid hK
    clear hK
    refine Held.mk ?_
    go_simp
    exact HK.out _ (RW.refl _)
  -- 1: Op.load 3 (Operand.tmp 17)
  apply RR.ls_val
  · intro x w' hb hpre K hK
    have z00 := (hb.cells _ 0 l0 (by omega) (by omega)).trans c00
    have z01 := (hb.cells _ 1 l0 (by omega) (by omega)).trans c01
    have z10 := (hb.cells _ 0 l1 (by omega) (by omega)).trans c10
    have z11 := (hb.cells _ 1 l1 (by omega) (by omega)).trans c11
    simp [preds, Region.binds, RR.phi, RR.MP.val, MPg1, MPg2] at hpre
    simp only [frL, Act.put, List.setIfInBounds_toArray, List.set_cons_zero, List.set_cons_succ, Nat.zero_add, Nat.reduceAdd, hpre] at hK ⊢
    have HK := Lib.hid hK
    clear hK
    refine Held.mk ?_
    go_simp
    exact HK.out _ (RW.refl _)
  -- 2: Op.move (Operand.tmp 7)
  apply RR.ls_val
  · intro x w' hb hpre K hK
    have z00 := (hb.cells _ 0 l0 (by omega) (by omega)).trans c00
    have z01 := (hb.cells _ 1 l0 (by omega) (by omega)).trans c01
    have z10 := (hb.cells _ 0 l1 (by omega) (by omega)).trans c10
    have z11 := (hb.cells _ 1 l1 (by omega) (by omega)).trans c11
    clear hpre
    simp only [frL, Act.put, List.setIfInBounds_toArray, List.set_cons_zero, List.set_cons_succ, Nat.zero_add, Nat.reduceAdd] at hK ⊢
    have HK := Lib.hid hK
    clear hK
    refine Held.mk ?_
    go_simp
    exact HK.out _ (RW.refl _)
  -- 3: Op.fieldAddr 106 (Operand.tmp 2) 1
  apply RR.ls_val
  · intro x w' hb hpre K hK
    have z00 := (hb.cells _ 0 l0 (by omega) (by omega)).trans c00
    have z01 := (hb.cells _ 1 l0 (by omega) (by omega)).trans c01
    have z10 := (hb.cells _ 0 l1 (by omega) (by omega)).trans c10
    have z11 := (hb.cells _ 1 l1 (by omega) (by omega)).trans c11
    clear hpre
    simp only [frL, Act.put, List.setIfInBounds_toArray, List.set_cons_zero, List.set_cons_succ, Nat.zero_add, Nat.reduceAdd] at hK ⊢
    have HK := Lib.hid hK
    clear hK
    refine Held.mk ?_
    go_simp
    exact HK.out _ (RW.refl _)
  -- 4: Op.load 3 (Operand.tmp 20)
  apply RR.ls_val
  · intro x w' hb hpre K hK
    have z00 := (hb.cells _ 0 l0 (by omega) (by omega)).trans c00
    have z01 := (hb.cells _ 1 l0 (by omega) (by omega)).trans c01
    have z10 := (hb.cells _ 0 l1 (by omega) (by omega)).trans c10
    have z11 := (hb.cells _ 1 l1 (by omega) (by omega)).trans c11
    simp [preds, Region.binds, RR.phi, RR.MP.val, MPg1, MPg2] at hpre
    simp only [frL, Act.put, List.setIfInBounds_toArray, List.set_cons_zero, List.set_cons_succ, Nat.zero_add, Nat.reduceAdd, hpre] at hK ⊢
    have HK := Lib.hid hK
    clear hK
    refine Held.mk ?_
    go_simp
    exact HK.out _ (RW.refl _)
  -- 5: Op.binOp BinOp.sub 3 (Operand.tmp 19) (Operand.tmp 21) 3
  apply RR.ls_val
  · intro x w' hb hpre K hK
    have z00 := (hb.cells _ 0 l0 (by omega) (by omega)).trans c00
    have z01 := (hb.cells _ 1 l0 (by omega) (by omega)).trans c01
    have z10 := (hb.cells _ 0 l1 (by omega) (by omega)).trans c10
    have z11 := (hb.cells _ 1 l1 (by omega) (by omega)).trans c11
    simp [preds, Region.binds, RR.phi, RR.MP.val, MPg1, MPg2] at hpre
    simp only [frL, Act.put, List.setIfInBounds_toArray, List.set_cons_zero, List.set_cons_succ, Nat.zero_add, Nat.reduceAdd, hpre] at hK ⊢
    have HK := Lib.hid hK
    clear hK
    refine Held.mk ?_
    go_simp
    exact HK.out _ (RW.refl _)
  -- 6: Op.call { callee := Callee.value (Operand.func 136), args := #[Operand.tmp 18, O
  apply RR.ls_val
  · intro x w' hb hpre K hK
    have z00 := (hb.cells _ 0 l0 (by omega) (by omega)).trans c00
    have z01 := (hb.cells _ 1 l0 (by omega) (by omega)).trans c01
    have z10 := (hb.cells _ 0 l1 (by omega) (by omega)).trans c10
    have z11 := (hb.cells _ 1 l1 (by omega) (by omega)).trans c11
    simp [preds, Region.binds, RR.phi, RR.MP.val, MPg1, MPg2] at hpre
    simp only [frL, Act.put, List.setIfInBounds_toArray, List.set_cons_zero, List.set_cons_succ, Nat.zero_add, Nat.reduceAdd, hpre] at hK ⊢
    have HK := Lib.hid hK
    clear hK
    refine Held.mk ?_
    go_simp
    (with_reducible refine (WA.out _).mono ?_)
    rintro e w1 ⟨rfl, hb1⟩
    dsimp only
    exact HK.out _ (RW.ofBelow hb1 (Nat.le_trans lS hb.bl.size))
  -- 7: Op.fieldAddr 106 (Operand.tmp 3) 0
  apply RR.ls_val
  · intro x w' hb hpre K hK
    have z00 := (hb.cells _ 0 l0 (by omega) (by omega)).trans c00
    have z01 := (hb.cells _ 1 l0 (by omega) (by omega)).trans c01
    have z10 := (hb.cells _ 0 l1 (by omega) (by omega)).trans c10
    have z11 := (hb.cells _ 1 l1 (by omega) (by omega)).trans c11
    clear hpre
    simp only [frL, Act.put, List.setIfInBounds_toArray, List.set_cons_zero, List.set_cons_succ, Nat.zero_add, Nat.reduceAdd] at hK ⊢
    have HK := Lib.hid hK
    clear hK
    refine Held.mk ?_
    go_simp
    exact HK.out _ (RW.refl _)
  -- 8: Op.load 3 (Operand.tmp 24)
  apply RR.ls_val
  · intro x w' hb hpre K hK
    have z00 := (hb.cells _ 0 l0 (by omega) (by omega)).trans c00
    have z01 := (hb.cells _ 1 l0 (by omega) (by omega)).trans c01
    have z10 := (hb.cells _ 0 l1 (by omega) (by omega)).trans c10
    have z11 := (hb.cells _ 1 l1 (by omega) (by omega)).trans c11
    simp [preds, Region.binds, RR.phi, RR.MP.val, MPg1, MPg2] at hpre
    simp only [frL, Act.put, List.setIfInBounds_toArray, List.set_cons_zero, List.set_cons_succ, Nat.zero_add, Nat.reduceAdd, hpre] at hK ⊢
    have HK := Lib.hid hK
    clear hK
    refine Held.mk ?_
    go_simp
    exact HK.out _ (RW.refl _)
  -- 9: Op.move (Operand.tmp 7)
  apply RR.ls_val
  · intro x w' hb hpre K hK
    have z00 := (hb.cells _ 0 l0 (by omega) (by omega)).trans c00
    have z01 := (hb.cells _ 1 l0 (by omega) (by omega)).trans c01
    have z10 := (hb.cells _ 0 l1 (by omega) (by omega)).trans c10
    have z11 := (hb.cells _ 1 l1 (by omega) (by omega)).trans c11
    clear hpre
    simp only [frL, Act.put, List.setIfInBounds_toArray, List.set_cons_zero, List.set_cons_succ, Nat.zero_add, Nat.reduceAdd] at hK ⊢
    have HK := Lib.hid hK
    clear hK
    refine Held.mk ?_
    go_simp
    exact HK.out _ (RW.refl _)
  -- 10: Op.fieldAddr 106 (Operand.tmp 3) 1
  apply RR.ls_val
  · intro x w' hb hpre K hK
    have z00 := (hb.cells _ 0 l0 (by omega) (by omega)).trans c00
    have z01 := (hb.cells _ 1 l0 (by omega) (by omega)).trans c01
    have z10 := (hb.cells _ 0 l1 (by omega) (by omega)).trans c10
    have z11 := (hb.cells _ 1 l1 (by omega) (by omega)).trans c11
    clear hpre
    simp only [frL, Act.put, List.setIfInBounds_toArray, List.set_cons_zero, List.set_cons_succ, Nat.zero_add, Nat.reduceAdd] at hK ⊢
    have HK := Lib.hid hK
    clear hK
    refine Held.mk ?_
    go_simp
    exact HK.out _ (RW.refl _)
  -- 11: Op.load 3 (Operand.tmp 27)
  apply RR.ls_val
  · intro x w' hb hpre K hK
    have z00 := (hb.cells _ 0 l0 (by omega) (by omega)).trans c00
    have z01 := (hb.cells _ 1 l0 (by omega) (by omega)).trans c01
    have z10 := (hb.cells _ 0 l1 (by omega) (by omega)).trans c10
    have z11 := (hb.cells _ 1 l1 (by omega) (by omega)).trans c11
    simp [preds, Region.binds, RR.phi, RR.MP.val, MPg1, MPg2] at hpre
    simp only [frL, Act.put, List.setIfInBounds_toArray, List.set_cons_zero, List.set_cons_succ, Nat.zero_add, Nat.reduceAdd, hpre] at hK ⊢
    have HK := Lib.hid hK
    clear hK
    refine Held.mk ?_
    go_simp
    exact HK.out _ (RW.refl _)
  -- 12: Op.binOp BinOp.sub 3 (Operand.tmp 26) (Operand.tmp 28) 3
  apply RR.ls_val
  · intro x w' hb hpre K hK
    have z00 := (hb.cells _ 0 l0 (by omega) (by omega)).trans c00
    have z01 := (hb.cells _ 1 l0 (by omega) (by omega)).trans c01
    have z10 := (hb.cells _ 0 l1 (by omega) (by omega)).trans c10
    have z11 := (hb.cells _ 1 l1 (by omega) (by omega)).trans c11
    simp [preds, Region.binds, RR.phi, RR.MP.val, MPg1, MPg2] at hpre
    simp only [frL, Act.put, List.setIfInBounds_toArray, List.set_cons_zero, List.set_cons_succ, Nat.zero_add, Nat.reduceAdd, hpre] at hK ⊢
    have HK := Lib.hid hK
    clear hK
    refine Held.mk ?_
    go_simp
    exact HK.out _ (RW.refl _)
  -- 13: Op.call { callee := Callee.value (Operand.func 136), args := #[Operand.tmp 25, O
  apply RR.ls_val
  · intro x w' hb hpre K hK
    have z00 := (hb.cells _ 0 l0 (by omega) (by omega)).trans c00
    have z01 := (hb.cells _ 1 l0 (by omega) (by omega)).trans c01
    have z10 := (hb.cells _ 0 l1 (by omega) (by omega)).trans c10
    have z11 := (hb.cells _ 1 l1 (by omega) (by omega)).trans c11
    simp [preds, Region.binds, RR.phi, RR.MP.val, MPg1, MPg2] at hpre
    simp only [frL, Act.put, List.setIfInBounds_toArray, List.set_cons_zero, List.set_cons_succ, Nat.zero_add, Nat.reduceAdd, hpre] at hK ⊢
    have HK := Lib.hid hK
    clear hK
    refine Held.mk ?_
    go_simp
    (with_reducible refine (WB.out _).mono ?_)
    rintro e w1 ⟨rfl, hb1⟩
    dsimp only
    exact HK.out _ (RW.ofBelow hb1 (Nat.le_trans lS hb.bl.size))
  -- 14: Op.move (Operand.tmp 7)
  apply RR.ls_val
  · intro x w' hb hpre K hK
    have z00 := (hb.cells _ 0 l0 (by omega) (by omega)).trans c00
    have z01 := (hb.cells _ 1 l0 (by omega) (by omega)).trans c01
    have z10 := (hb.cells _ 0 l1 (by omega) (by omega)).trans c10
    have z11 := (hb.cells _ 1 l1 (by omega) (by omega)).trans c11
    clear hpre
    simp only [frL, Act.put, List.setIfInBounds_toArray, List.set_cons_zero, List.set_cons_succ, Nat.zero_add, Nat.reduceAdd] at hK ⊢
    have HK := Lib.hid hK
    clear hK
    refine Held.mk ?_
    go_simp
    exact HK.out _ (RW.refl _)
  -- 15: Op.store 170 (Operand.tmp 4) (Operand.tmp 23)
  refine RR.ls_gen MPg1 ?_ ?_
  · intro x w' hb hpre K hK
    have z00 := (hb.cells _ 0 l0 (by omega) (by omega)).trans c00
    have z01 := (hb.cells _ 1 l0 (by omega) (by omega)).trans c01
    have z10 := (hb.cells _ 0 l1 (by omega) (by omega)).trans c10
    have z11 := (hb.cells _ 1 l1 (by omega) (by omega)).trans c11
    simp [preds, Region.binds, RR.phi, RR.MP.val, MPg1, MPg2] at hpre
    simp only [frL, Act.put, List.setIfInBounds_toArray, List.set_cons_zero, List.set_cons_succ, Nat.zero_add, Nat.reduceAdd, hpre] at hK ⊢
    have HK := Lib.hid hK
    clear hK
    obtain ⟨y1, y2, y3, hy⟩ := hb.k1 ⟨_, _, _, F2⟩
    obtain ⟨d0, d1', d2', e0, e1, e2⟩ := hy.three
    have hp := RW.put1 (S := w.heap.size) (p2 := w.heap.size + 1 + 1 + 1) (f2 := A2) HA1.out hy (by omega) (by omega)
    refine Held.mk ?_
    go_simp
    exact HK.out undef _ hp.2 hp.1
  -- 16: Op.store 170 (Operand.tmp 5) (Operand.tmp 30)
  refine RR.ls_gen MPg2 ?_ ?_
  · intro x w' hb hpre K hK
    have z00 := (hb.cells _ 0 l0 (by omega) (by omega)).trans c00
    have z01 := (hb.cells _ 1 l0 (by omega) (by omega)).trans c01
    have z10 := (hb.cells _ 0 l1 (by omega) (by omega)).trans c10
    have z11 := (hb.cells _ 1 l1 (by omega) (by omega)).trans c11
    simp [preds, Region.binds, RR.phi, RR.MP.val, MPg1, MPg2] at hpre
    simp only [frL, Act.put, List.setIfInBounds_toArray, List.set_cons_zero, List.set_cons_succ, Nat.zero_add, Nat.reduceAdd, hpre] at hK ⊢
    have HK := Lib.hid hK
    clear hK
    obtain ⟨y1, y2, y3, hy⟩ := hb.k2 ⟨_, _, _, F3⟩
    obtain ⟨d0, d1', d2', e0, e1, e2⟩ := hy.three
    have hp := RW.put2 (S := w.heap.size) (p1 := w.heap.size + 1 + 1) (f1 := A1) HA2.out hy (by omega) (by omega)
    refine Held.mk ?_
    go_simp
    exact HK.out undef _ hp.2 hp.1
  -- 17: Op.assign (Operand.tmp 31)
  apply RR.ls_val
  · intro x w' hb hpre K hK
    have z00 := (hb.cells _ 0 l0 (by omega) (by omega)).trans c00
    have z01 := (hb.cells _ 1 l0 (by omega) (by omega)).trans c01
    have z10 := (hb.cells _ 0 l1 (by omega) (by omega)).trans c10
    have z11 := (hb.cells _ 1 l1 (by omega) (by omega)).trans c11
    simp [preds, Region.binds, RR.phi, RR.MP.val, MPg1, MPg2] at hpre
    simp only [frL, Act.put, List.setIfInBounds_toArray, List.set_cons_zero, List.set_cons_succ, Nat.zero_add, Nat.reduceAdd, hpre] at hK ⊢
    have HK := Lib.hid hK
    clear hK
    refine Held.mk ?_
    go_simp
    exact HK.out _ (RW.refl _)
  intro x w' hb hp
  simp only [List.cons_append, List.nil_append, RR.phis, RR.MP.val, frL, Act.put, List.setIfInBounds_toArray, List.set_cons_zero, List.set_cons_succ, Nat.zero_add, Nat.reduceAdd] at hp ⊢
  obtain ⟨h0, h1, h2, h3, h4, h5, h6, h7, h8, h9, h10, h11, h12, h13, h14, h15, h16, h17, -⟩ := hp
  simp only [h0, h1, h2, h3, h4, h5, h6, h7, h8, h9, h10, h11, h12, h13, h14, h17]
  clear h0 h1 h2 h3 h4 h5 h6 h7 h8 h9 h10 h11 h12 h13 h14 h17
  have G2 : Blk w' (w.heap.size + 1 + 1) A1 170 := h15
  have G3 : Blk w' (w.heap.size + 1 + 1 + 1) A2 170 := h16
  rw [HA1.out] at G2
  rw [HA2.out] at G3
  have hu : Below w.heap.size w w' := hv.trans hb.bl
  clear c00 c01 c10 c11 l0 l1 F0 F1 F2 F3 hb hv WA WB h15 h16 HA1 HA2
  obtain ⟨c20, c21, c22, f20, f21, f22⟩ := G2.three
  obtain ⟨c30, c31, c32, f30, f31, f32⟩ := G3.three
  change wpList _ _ _ [] _ _
  unfold wpList
  go_wp2_with fail
  refine bodyPost_ret (v := .tuple #[.agg #[.bool (decide (n < 0)), .int .u64 ((hiN (n.natAbs * powN d1) : Nat) : Int), .int .u64 ((loN (n.natAbs * powN d1) : Nat) : Int)], .agg #[.bool (decide (k < 0)), .int .u64 ((hiN (k.natAbs * powN d2) : Nat) : Int), .int .u64 ((loN (k.natAbs * powN d2) : Nat) : Int)], .int .i64 (M : Int)]) (by simp [results, Tryz.results132, go_sem, c20, c21, c22, c30, c31, c32]) rfl ⟨?_, hu⟩
  rw [← hHM.out, ← HD1.out, ← HD2.out]
end Go.Proofs.YtfagfkfcokmclaaGreatDoor
