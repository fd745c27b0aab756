/- Texts put together: WaM, WaT, DiL, DiM, DiN, DiO, DiP. -/
import Derived.Test.YtfagfkfcokmclaaGreatDoorZWaI
import Derived.Test.YtfagfkfcokmclaaGreatDoorZWaE0
import Derived.Test.YtfagfkfcokmclaaGreatDoorZMgC
import Derived.Test.YtfagfkfcokmclaaGreatDoorZMgD
import Derived.Test.YtfagfkfcokmclaaGreatDoorZMgA
/- The quotient. -/
section
set_option linter.unusedSimpArgs false
set_option linter.unusedVariables false
set_option linter.constructorNameAsVariable false
namespace Go.Proofs.YtfagfkfcokmclaaGreatDoor
open Go.RowKit

theorem tdiv_sgn (b1 b2 : Bool) (m d : Nat) (hd : 0 < d) : sgn (b1 != b2) (m / d) = (sgn b1 m).tdiv (sgn b2 d) := by
  cases b1 <;> cases b2 <;> simp [sgn, Int.neg_tdiv, Int.tdiv_neg]
theorem tmod_sgn (b1 b2 : Bool) (m d : Nat) : sgn b1 (m % d) = (sgn b1 m).tmod (sgn b2 d) := by
  cases b1 <;> cases b2 <;> simp [sgn, Int.neg_tmod, Int.tmod_neg] <;> exact (Int.tmod_eq_emod_of_nonneg (by omega)).symm
/-- Boxes of the call's own are filled with one thing or another; what lies below them stays. -/
structure RD (B : Nat) (t : TypeId) (F : Array Value) (w w' : World) : Prop where
  bl : Below B w w'
  k : ∀ q a b c, Blk w q #[a, b, c] t → B ≤ q → ∃ a' b' c', Blk w' q #[a', b', c'] t
  g : ∀ q, Blk w q F t → Blk w' q F t
section
variable {B : Nat} {t : TypeId} {F : Array Value}
theorem RD.refl (w : World) : RD B t F w w := ⟨Below.refl _ _, fun _ _ _ _ h _ => ⟨_, _, _, h⟩, fun _ h => h⟩
theorem RD.trans : ∀ a b c, RD B t F a b → RD B t F b c → RD B t F a c := fun a b c h1 h2 =>
  ⟨h1.bl.trans h2.bl, fun q x y z h hq => by obtain ⟨x', y', z', h'⟩ := h1.k q x y z h hq; exact h2.k q _ _ _ h' hq, fun q h => h2.g q (h1.g q h)⟩
theorem RD.drew (w : World) : RD B t F w { w with drawn := w.drawn + 1 } := ⟨(Below.refl _ _).drew, fun _ _ _ _ h _ => ⟨_, _, _, h⟩, fun _ h => h⟩
theorem RD.ofBelow {w w' : World} (hb : Below w.heap.size w w') (hS : B ≤ w.heap.size) : RD B t F w w' :=
  ⟨hb.mono hS, fun _ a b c h _ => ⟨a, b, c, h.below hb h.lt⟩, fun _ h => h.below hb h.lt⟩
theorem RD.put {w : World} {q : Nat} {a b c x y z : Value} (hf : F = #[x, y, z]) (h : Blk w q #[a, b, c] t) (hS : B ≤ q) :
    RD B t F w (((w.setCell ⟨q, 0, none⟩ x).setCell ⟨q, 1, none⟩ y).setCell ⟨q, 2, none⟩ z) ∧ Blk (((w.setCell ⟨q, 0, none⟩ x).setCell ⟨q, 1, none⟩ y).setCell ⟨q, 2, none⟩ z) q F t := by
  subst hf
  have hB : Blk (((w.setCell ⟨q, 0, none⟩ x).setCell ⟨q, 1, none⟩ y).setCell ⟨q, 2, none⟩ z) q #[x, y, z] t := ((h.set 0 _).set 1 _).set 2 _
  refine ⟨⟨(((Below.refl _ _).setCell (by simpa using hS) _).setCell (by simpa using hS) _).setCell (by simpa using hS) _, fun q' a' b' c' h' _ => ?_, fun q' h' => ?_⟩, hB⟩
  · by_cases e : q' = q
    · subst e; exact ⟨_, _, _, hB⟩
    · exact ⟨a', b', c', ((h'.other e _).other e _).other e _⟩
  · by_cases e : q' = q
    · subst e; exact hB
    · exact ((h'.other e _).other e _).other e _
def MPbox : RC.MP (RD B t F) := ⟨fun v w => ∃ q a b c, v = .pointer (some ⟨q, 0, none⟩) ∧ B ≤ q ∧ Blk w q #[a, b, c] t, fun _ _ _ ⟨q, a, b, c, h1, h2, h3⟩ hr => by obtain ⟨a', b', c', h⟩ := hr.k q a b c h3 h2; exact ⟨q, a', b', c', h1, h2, h⟩⟩
def MPfin : RC.MP (RD B t F) := ⟨fun v w => ∃ q, v = .pointer (some ⟨q, 0, none⟩) ∧ B ≤ q ∧ Blk w q F t, fun _ _ _ ⟨q, h1, h2, h3⟩ hr => ⟨q, h1, h2, hr.g q h3⟩⟩
end
/-- Two boxes are two; the store's mark is the first. -/
structure JD (x : Nat → Value) (w : World) : Prop where
  a : ∀ q, x 16 = .pointer (some ⟨q, 0, none⟩) → q < w.heap.size
  b : ∀ q, x 17 = .pointer (some ⟨q, 0, none⟩) → q < w.heap.size
  c : ∀ q, x 16 = .pointer (some ⟨q, 0, none⟩) → x 17 = .pointer (some ⟨q, 0, none⟩) → False
  d : ∀ q, x 18 = .pointer (some ⟨q, 0, none⟩) → x 16 = .pointer (some ⟨q, 0, none⟩)
theorem JD.step {B : Nat} {t : TypeId} {F : Array Value} {i : Nat} (hi : (i != 16 && i != 17 && i != 18) = true) : ∀ x v w1 w2, JD x w1 → RD B t F w1 w2 → JD (upd x i v) w2 := fun x v w1 w2 h hr => by
  simp only [Bool.and_eq_true, bne_iff_ne] at hi
  have h6 : upd x i v 16 = x 16 := by simp [upd]; omega
  have h7 : upd x i v 17 = x 17 := by simp [upd]; omega
  have h8 : upd x i v 18 = x 18 := by simp [upd]; omega
  have := hr.bl.size
  exact ⟨fun q hq => by rw [h6] at hq; have := h.a q hq; omega, fun q hq => by rw [h7] at hq; have := h.b q hq; omega, fun q hq hq' => by rw [h6] at hq; rw [h7] at hq'; exact h.c q hq hq', fun q hq => by rw [h8] at hq; rw [h6]; exact h.d q hq⟩
theorem ptr_inj {p q : Nat} (h : (Value.pointer (some ⟨p, 0, none⟩)) = .pointer (some ⟨q, 0, none⟩)) : p = q := by
  injection h with h
  injection h with h
  injection h
theorem JD.s16 {x : Nat → Value} {w : World} (h : JD x w) (h0 : ∀ q, x 18 ≠ .pointer (some ⟨q, 0, none⟩)) (o : Obj) : JD (upd x 16 (.pointer (some ⟨w.heap.size, 0, none⟩))) (w.alloc o) := by
  have h6 : upd x 16 (.pointer (some ⟨w.heap.size, 0, none⟩)) 16 = .pointer (some ⟨w.heap.size, 0, none⟩) := by simp [upd]
  have h7 : upd x 16 (.pointer (some ⟨w.heap.size, 0, none⟩)) 17 = x 17 := by simp [upd]
  have h8 : upd x 16 (.pointer (some ⟨w.heap.size, 0, none⟩)) 18 = x 18 := by simp [upd]
  refine ⟨fun q hq => ?_, fun q hq => ?_, fun q hq hq' => ?_, fun q hq => ?_⟩
  · rw [h6] at hq; have := ptr_inj hq; simp; omega
  · rw [h7] at hq; have := h.b q hq; simp; omega
  · rw [h6] at hq; rw [h7] at hq'; have := ptr_inj hq; have := h.b q hq'; omega
  · rw [h8] at hq; exact absurd hq (h0 q)
theorem JD.s17 {x : Nat → Value} {w : World} (h : JD x w) (o : Obj) : JD (upd x 17 (.pointer (some ⟨w.heap.size, 0, none⟩))) (w.alloc o) := by
  have h6 : upd x 17 (.pointer (some ⟨w.heap.size, 0, none⟩)) 16 = x 16 := by simp [upd]
  have h7 : upd x 17 (.pointer (some ⟨w.heap.size, 0, none⟩)) 17 = .pointer (some ⟨w.heap.size, 0, none⟩) := by simp [upd]
  have h8 : upd x 17 (.pointer (some ⟨w.heap.size, 0, none⟩)) 18 = x 18 := by simp [upd]
  refine ⟨fun q hq => ?_, fun q hq => ?_, fun q hq hq' => ?_, fun q hq => ?_⟩
  · rw [h6] at hq; have := h.a q hq; simp; omega
  · rw [h7] at hq; have := ptr_inj hq; simp; omega
  · rw [h6] at hq; rw [h7] at hq'; have := ptr_inj hq'; have := h.a q hq; omega
  · rw [h8] at hq; rw [h6]; exact h.d q hq
theorem JD.s18 {x : Nat → Value} {w w' : World} (h : JD x w) (hs : w.heap.size ≤ w'.heap.size) {p : Nat} (hp : x 16 = .pointer (some ⟨p, 0, none⟩)) : JD (upd x 18 (.pointer (some ⟨p, 0, none⟩))) w' := by
  have h6 : upd x 18 (.pointer (some ⟨p, 0, none⟩)) 16 = x 16 := by simp [upd]
  have h7 : upd x 18 (.pointer (some ⟨p, 0, none⟩)) 17 = x 17 := by simp [upd]
  have h8 : upd x 18 (.pointer (some ⟨p, 0, none⟩)) 18 = .pointer (some ⟨p, 0, none⟩) := by simp [upd]
  refine ⟨fun q hq => ?_, fun q hq => ?_, fun q hq hq' => ?_, fun q hq => ?_⟩
  · rw [h6] at hq; have := h.a q hq; omega
  · rw [h7] at hq; have := h.b q hq; omega
  · rw [h6] at hq; rw [h7] at hq'; exact h.c q hq hq'
  · rw [h8] at hq; rw [h6, hp, hq]
set_option maxHeartbeats 8000000 in
theorem div_any (n k : Int) (s t : Nat) (ha : Rt n s) (hB : Rt k t) (w : World) : Calls Tryz.prog 79 #[.agg #[.int .i64 n, .int .i64 (s : Int)], .agg #[.int .i64 k, .int .i64 (t : Int)]] w fun e w' =>
    e = .returned (.tuple #[.agg #[.int .i64 (divF n s k t).1, .int .i64 (divF n s k t).2.1], .int .i64 (divF n s k t).2.2]) ∧ Below w.heap.size w w' := by
  have CA := Lib.hid (fun w => clean_right ha w)
  have CB := Lib.hid (fun w => clean_right hB w)
  have hs9 : s ≤ 9 := by have := ha.s9; omega
  have ht9 : t ≤ 9 := by have := hB.s9; omega
  go_enter Tryz.func79, Tryz.ntmps79
  go_wp2_with fail
  refine region_steps 4 [some 8, some 9, some 10, some 11] (by kernel_rfl) (by kernel_rfl) ?_
  -- 0: Op.load 106 (Operand.tmp 2)
  apply ls_val
  · intro x w' hb hpre K hK
    have hc := (bcell hb).1
    clear hpre
    simp only [frL, Act.put, List.setIfInBounds_toArray, List.set_cons_zero, List.set_cons_succ, Nat.zero_add, Nat.reduceAdd] at hK ⊢
    have HK := Lib.hid hK
    clear hK
    refine Held.mk ?_
    go_simp
    exact HK.out _ (Below.refl _ _)
  -- 1: Op.call { callee := Callee.value (Operand.func 135), args := #[Operand.tmp 8], argTypes :=
  apply ls_val
  · intro x w' hb hpre K hK
    have hc := (bcell hb).1
    simp [preds, Region.binds, phi, MP.val, MP.box, MP.row] at hpre
    simp only [frL, Act.put, List.setIfInBounds_toArray, List.set_cons_zero, List.set_cons_succ, Nat.zero_add, Nat.reduceAdd, hpre] at hK ⊢
    have HK := Lib.hid hK
    clear hK
    refine Held.mk ?_
    go_simp
    (with_reducible refine (CA.out _).mono ?_)
    rintro e w1 ⟨rfl, hb1⟩
    dsimp only
    exact HK.out _ hb1
  -- 2: Op.load 106 (Operand.tmp 3)
  apply ls_val
  · intro x w' hb hpre K hK
    have hc := (bcell hb).1
    clear hpre
    simp only [frL, Act.put, List.setIfInBounds_toArray, List.set_cons_zero, List.set_cons_succ, Nat.zero_add, Nat.reduceAdd] at hK ⊢
    have HK := Lib.hid hK
    clear hK
    refine Held.mk ?_
    go_simp
    exact HK.out _ (Below.refl _ _)
  -- 3: Op.call { callee := Callee.value (Operand.func 135), args := #[Operand.tmp 10], argTypes :
  apply ls_val
  · intro x w' hb hpre K hK
    have hc := (bcell hb).1
    simp [preds, Region.binds, phi, MP.val, MP.box, MP.row] at hpre
    simp only [frL, Act.put, List.setIfInBounds_toArray, List.set_cons_zero, List.set_cons_succ, Nat.zero_add, Nat.reduceAdd, hpre] at hK ⊢
    have HK := Lib.hid hK
    clear hK
    refine Held.mk ?_
    go_simp
    (with_reducible refine (CB.out _).mono ?_)
    rintro e w1 ⟨rfl, hb1⟩
    dsimp only
    exact HK.out _ hb1
  intro x w' hb hp
  simp only [List.cons_append, List.nil_append, phis, MP.val, MP.box, MP.row, frL, Act.put, List.setIfInBounds_toArray, List.set_cons_zero, List.set_cons_succ, Nat.zero_add, Nat.reduceAdd] at hp ⊢
  obtain ⟨h0, h1, h2, h3, -⟩ := hp
  simp only [h0, h1, h2, h3]
  clear h0 h1 h2 h3
  have E0 : Blk w' w.heap.size #[.int .i64 n, .int .i64 (s : Int)] 106 := (Blk.alloc (Blk.alloc (Blk.here rfl rfl) _) _).below hb (by simp; omega)
  have E1 : Blk w' (w.heap.size + 1) #[.int .i64 k, .int .i64 (t : Int)] 106 := (Blk.alloc (Blk.here rfl (by simp)) _).below hb (by simp)
  have E2 : Blk w' (w.heap.size + 1 + 1) #[.int .i64 0, .int .i64 0] 106 := (Blk.here rfl (by simp)).below hb (by simp)
  have hw : Below w.heap.size w w' := Below.trans (by go_grown) (hb.mono (by simp; omega))
  clear hb CA CB
  obtain ⟨c00, c01, f00, f01⟩ := E0.two
  obtain ⟨c10, c11, f10, f11⟩ := E1.two
  obtain ⟨c20, c21, f20, f21⟩ := E2.two
  cases ez : (k == 0)
  · have hk : k ≠ 0 := by simpa using ez
    obtain ⟨d1, hd1⟩ : ∃ d, d = 9 + t - s := ⟨_, rfl⟩
    obtain ⟨m1, hm1⟩ : ∃ m, m = n.natAbs * powN d1 := ⟨_, rfl⟩
    obtain ⟨m2, hm2⟩ : ∃ m, m = k.natAbs * powN 0 := ⟨_, rfl⟩
    obtain ⟨b1, hb1⟩ : ∃ b, b = decide (n < 0) := ⟨_, rfl⟩
    obtain ⟨b2, hb2⟩ : ∃ b, b = decide (k < 0) := ⟨_, rfl⟩
    have hlo := ha.lo; have hhi := ha.hi; have klo := hB.lo; have khi := hB.hi
    have z1 : m2 = k.natAbs := by rw [hm2, powN_zero, Nat.mul_one]
    have z2 : m1 ≤ 999999999999999999 * 1000000000000000000 := by
      rw [hm1]
      have h3 := powN_le (show d1 ≤ 18 by omega)
      rw [powN_18] at h3
      exact Nat.mul_le_mul (by omega) h3
    have WA := Lib.hid (fun w => widen_any n d1 (by omega) (by omega) (by omega) w)
    have WB := Lib.hid (fun w => widen_any k 0 (by omega) (by omega) (by omega) w)
    rw [← hb1, ← hm1] at WA
    rw [← hb2, ← hm2] at WB
    simp only [Int.natCast_zero] at WB
    have WO := Lib.hid (fun w => over_any b1 b2 m1 m2 (by omega) (by omega) (by omega) w)
    have hdiv : divF n s k t = fitW (b1 != b2) (m1 / m2) 9 := by
      unfold divF
      rw [ez, fitW_Z, tdiv_sgn _ _ _ _ (by omega), hm1, hb1, hm2, hb2, powN_zero, Nat.mul_one, sgn_Z, sgn_mul, sgn_Z, powN_cast, hd1]
      simp only [Bool.false_eq_true, if_false]
      congr 4
      omega
    have WF := Lib.hid (fun w => fit_any (b1 != b2) (m1 / m2) 9 (by have := Nat.div_le_self m1 m2; omega) (by omega) w)
    obtain ⟨b3, hb3⟩ : ∃ b, b = (b1 != b2) := ⟨_, rfl⟩
    obtain ⟨m3, hm3⟩ : ∃ m, m = m1 / m2 := ⟨_, rfl⟩
    obtain ⟨m4, hm4⟩ : ∃ m, m = m1 % m2 := ⟨_, rfl⟩
    obtain ⟨r, hr⟩ : ∃ r, r = fitW b3 m3 9 := ⟨_, rfl⟩
    rw [← hb3, ← hm3, ← hm4] at WO
    rw [← hb3, ← hm3, ← hr] at WF
    rw [← hb3, ← hm3, ← hr] at hdiv
    obtain ⟨r1, r2, r3⟩ := r
    have HDIV := Lib.hid hdiv
    have g1 : IntKind.i64.wrap (9 + (t : Int)) = 9 + (t : Int) := IntWalk.i64_in _ (by omega)
    have g2 : IntKind.i64.wrap (9 + (t : Int) - (s : Int)) = (d1 : Int) := by rw [IntKind.wrap_i64]; omega
    have g3 : 9 + (t : Int) - (s : Int) = (d1 : Int) := by omega
    have g4 : IntKind.i64.wrap (d1 : Int) = (d1 : Int) := IntWalk.i64_in _ (by omega)
    clear hdiv hr hb3 hm3 hm4 hb1 hb2 hm1 hm2 z1 z2 hd1
    go_upto_region 4 with fail
    refine wp_worldT ?_
    intro w2 hw2
    have F0 : Blk w2 w.heap.size #[.int .i64 n, .int .i64 (s : Int)] 106 := by rw [hw2]; exact (((E0.set 0 _).set 1 _).other (by simp) _).other (by simp) _
    have F1 : Blk w2 (w.heap.size + 1) #[.int .i64 k, .int .i64 (t : Int)] 106 := by rw [hw2]; exact (((E1.other (by simp) _).other (by simp) _).set 0 _).set 1 _
    have F2 : Blk w2 (w.heap.size + 1 + 1) #[.int .i64 0, .int .i64 0] 106 := by rw [hw2]; exact (((E2.other (by simp; try omega) _).other (by simp; try omega) _).other (by simp; try omega) _).other (by simp; try omega) _
    have hv : Below w.heap.size w w2 := by rw [hw2]; exact (((hw.setCell (by simp) _).setCell (by simp) _).setCell (by simp) _).setCell (by simp) _
    clear hw2 c00 c01 c10 c11 c20 c21 f00 f01 f10 f11 f20 f21 E0 E1 E2 hw w' x
    obtain ⟨c00, c01, -, -⟩ := F0.two
    obtain ⟨c10, c11, -, -⟩ := F1.two
    have l0 : w.heap.size < w2.heap.size := F0.lt
    have l1 : w.heap.size + 1 < w2.heap.size := F1.lt
    obtain ⟨A, hA⟩ : ∃ A : Array Value, A = #[.bool b3, .int .u64 ((hiN m3 : Nat) : Int), .int .u64 ((loN m3 : Nat) : Int)] := ⟨_, rfl⟩
    have HA := Lib.hid hA
    clear hA
    refine RC.region_steps (R := RD w2.heap.size 170 A) 19 [some 17, some 18, some 19, some 20, some 21, some 22, some 23, some 24, some 25, some 26, some 27, some 28, some 29, some 16, some 30, some 31, some 6, some 7, none] JD RD.trans RD.drew (fun w9 => ⟨fun q hq => by simp [orig, undef] at hq, fun q hq => by simp [orig, undef] at hq, fun q hq => by simp [orig, undef] at hq, fun q hq => by simp [orig, undef] at hq⟩) (by kernel_rfl) (by kernel_rfl) ?_
    -- 0: Op.fieldAddr 106 (Operand.tmp 2) 0
    apply RC.ls_val (JD.step (by decide))
    · intro x w' hb hpre K hK
      have z00 := (hb.bl.cell (p := ⟨w.heap.size, 0, none⟩) l0).trans c00
      have z01 := (hb.bl.cell (p := ⟨w.heap.size, 1, none⟩) l0).trans c01
      have z10 := (hb.bl.cell (p := ⟨w.heap.size + 1, 0, none⟩) l1).trans c10
      have z11 := (hb.bl.cell (p := ⟨w.heap.size + 1, 1, none⟩) l1).trans c11
      clear hpre
      simp only [frL, Act.put, List.setIfInBounds_toArray, List.set_cons_zero, List.set_cons_succ, Nat.zero_add, Nat.reduceAdd] at hK ⊢
      have HK := Lib.hid hK
      clear hK
      refine Held.mk ?_
      go_simp
      exact HK.out _ (RD.refl _)
    -- 1: Op.load 3 (Operand.tmp 17)
    apply RC.ls_val (JD.step (by decide))
    · intro x w' hb hpre K hK
      have z00 := (hb.bl.cell (p := ⟨w.heap.size, 0, none⟩) l0).trans c00
      have z01 := (hb.bl.cell (p := ⟨w.heap.size, 1, none⟩) l0).trans c01
      have z10 := (hb.bl.cell (p := ⟨w.heap.size + 1, 0, none⟩) l1).trans c10
      have z11 := (hb.bl.cell (p := ⟨w.heap.size + 1, 1, none⟩) l1).trans c11
      simp [preds, Region.binds, RC.phi, RC.MP.val] at hpre
      simp only [frL, Act.put, List.setIfInBounds_toArray, List.set_cons_zero, List.set_cons_succ, Nat.zero_add, Nat.reduceAdd, hpre] at hK ⊢
      have HK := Lib.hid hK
      clear hK
      refine Held.mk ?_
      go_simp
      exact HK.out _ (RD.refl _)
    -- 2: Op.fieldAddr 106 (Operand.tmp 3) 1
    apply RC.ls_val (JD.step (by decide))
    · intro x w' hb hpre K hK
      have z00 := (hb.bl.cell (p := ⟨w.heap.size, 0, none⟩) l0).trans c00
      have z01 := (hb.bl.cell (p := ⟨w.heap.size, 1, none⟩) l0).trans c01
      have z10 := (hb.bl.cell (p := ⟨w.heap.size + 1, 0, none⟩) l1).trans c10
      have z11 := (hb.bl.cell (p := ⟨w.heap.size + 1, 1, none⟩) l1).trans c11
      clear hpre
      simp only [frL, Act.put, List.setIfInBounds_toArray, List.set_cons_zero, List.set_cons_succ, Nat.zero_add, Nat.reduceAdd] at hK ⊢
      have HK := Lib.hid hK
      clear hK
      refine Held.mk ?_
      go_simp
      exact HK.out _ (RD.refl _)
    -- 3: Op.load 3 (Operand.tmp 19)
    apply RC.ls_val (JD.step (by decide))
    · intro x w' hb hpre K hK
      have z00 := (hb.bl.cell (p := ⟨w.heap.size, 0, none⟩) l0).trans c00
      have z01 := (hb.bl.cell (p := ⟨w.heap.size, 1, none⟩) l0).trans c01
      have z10 := (hb.bl.cell (p := ⟨w.heap.size + 1, 0, none⟩) l1).trans c10
      have z11 := (hb.bl.cell (p := ⟨w.heap.size + 1, 1, none⟩) l1).trans c11
      simp [preds, Region.binds, RC.phi, RC.MP.val] at hpre
      simp only [frL, Act.put, List.setIfInBounds_toArray, List.set_cons_zero, List.set_cons_succ, Nat.zero_add, Nat.reduceAdd, hpre] at hK ⊢
      have HK := Lib.hid hK
      clear hK
      refine Held.mk ?_
      go_simp
      exact HK.out _ (RD.refl _)
    -- 4: Op.binOp BinOp.add 3 (Operand.const (Value.int IntKind.i64 9)) (Operand.tmp 20) 
    apply RC.ls_val (JD.step (by decide))
    · intro x w' hb hpre K hK
      have z00 := (hb.bl.cell (p := ⟨w.heap.size, 0, none⟩) l0).trans c00
      have z01 := (hb.bl.cell (p := ⟨w.heap.size, 1, none⟩) l0).trans c01
      have z10 := (hb.bl.cell (p := ⟨w.heap.size + 1, 0, none⟩) l1).trans c10
      have z11 := (hb.bl.cell (p := ⟨w.heap.size + 1, 1, none⟩) l1).trans c11
      simp [preds, Region.binds, RC.phi, RC.MP.val] at hpre
      simp only [frL, Act.put, List.setIfInBounds_toArray, List.set_cons_zero, List.set_cons_succ, Nat.zero_add, Nat.reduceAdd, hpre] at hK ⊢
      have HK := Lib.hid hK
      clear hK
      refine Held.mk ?_
      go_simp
      exact HK.out _ (RD.refl _)
    -- 5: Op.fieldAddr 106 (Operand.tmp 2) 1
    apply RC.ls_val (JD.step (by decide))
    · intro x w' hb hpre K hK
      have z00 := (hb.bl.cell (p := ⟨w.heap.size, 0, none⟩) l0).trans c00
      have z01 := (hb.bl.cell (p := ⟨w.heap.size, 1, none⟩) l0).trans c01
      have z10 := (hb.bl.cell (p := ⟨w.heap.size + 1, 0, none⟩) l1).trans c10
      have z11 := (hb.bl.cell (p := ⟨w.heap.size + 1, 1, none⟩) l1).trans c11
      clear hpre
      simp only [frL, Act.put, List.setIfInBounds_toArray, List.set_cons_zero, List.set_cons_succ, Nat.zero_add, Nat.reduceAdd] at hK ⊢
      have HK := Lib.hid hK
      clear hK
      refine Held.mk ?_
      go_simp
      exact HK.out _ (RD.refl _)
    -- 6: Op.load 3 (Operand.tmp 22)
    apply RC.ls_val (JD.step (by decide))
    · intro x w' hb hpre K hK
      have z00 := (hb.bl.cell (p := ⟨w.heap.size, 0, none⟩) l0).trans c00
      have z01 := (hb.bl.cell (p := ⟨w.heap.size, 1, none⟩) l0).trans c01
      have z10 := (hb.bl.cell (p := ⟨w.heap.size + 1, 0, none⟩) l1).trans c10
      have z11 := (hb.bl.cell (p := ⟨w.heap.size + 1, 1, none⟩) l1).trans c11
      simp [preds, Region.binds, RC.phi, RC.MP.val] at hpre
      simp only [frL, Act.put, List.setIfInBounds_toArray, List.set_cons_zero, List.set_cons_succ, Nat.zero_add, Nat.reduceAdd, hpre] at hK ⊢
      have HK := Lib.hid hK
      clear hK
      refine Held.mk ?_
      go_simp
      exact HK.out _ (RD.refl _)
    -- 7: Op.binOp BinOp.sub 3 (Operand.tmp 21) (Operand.tmp 23) 3
    apply RC.ls_val (JD.step (by decide))
    · intro x w' hb hpre K hK
      have z00 := (hb.bl.cell (p := ⟨w.heap.size, 0, none⟩) l0).trans c00
      have z01 := (hb.bl.cell (p := ⟨w.heap.size, 1, none⟩) l0).trans c01
      have z10 := (hb.bl.cell (p := ⟨w.heap.size + 1, 0, none⟩) l1).trans c10
      have z11 := (hb.bl.cell (p := ⟨w.heap.size + 1, 1, none⟩) l1).trans c11
      simp [preds, Region.binds, RC.phi, RC.MP.val] at hpre
      simp only [frL, Act.put, List.setIfInBounds_toArray, List.set_cons_zero, List.set_cons_succ, Nat.zero_add, Nat.reduceAdd, hpre] at hK ⊢
      have HK := Lib.hid hK
      clear hK
      refine Held.mk ?_
      go_simp
      exact HK.out _ (RD.refl _)
    -- 8: Op.call { callee := Callee.value (Operand.func 136), args := #[Operand.tmp 18, O
    apply RC.ls_val (JD.step (by decide))
    · intro x w' hb hpre K hK
      have z00 := (hb.bl.cell (p := ⟨w.heap.size, 0, none⟩) l0).trans c00
      have z01 := (hb.bl.cell (p := ⟨w.heap.size, 1, none⟩) l0).trans c01
      have z10 := (hb.bl.cell (p := ⟨w.heap.size + 1, 0, none⟩) l1).trans c10
      have z11 := (hb.bl.cell (p := ⟨w.heap.size + 1, 1, none⟩) l1).trans c11
      simp [preds, Region.binds, RC.phi, RC.MP.val] at hpre
      simp only [frL, Act.put, List.setIfInBounds_toArray, List.set_cons_zero, List.set_cons_succ, Nat.zero_add, Nat.reduceAdd, hpre] at hK ⊢
      have HK := Lib.hid hK
      clear hK
      refine Held.mk ?_
      go_simp
      (with_reducible refine (WA.out _).mono ?_)
      rintro e w1 ⟨rfl, hb1⟩
      dsimp only
      exact HK.out _ (RD.ofBelow hb1 hb.bl.size)
    -- 9: Op.fieldAddr 106 (Operand.tmp 3) 0
    apply RC.ls_val (JD.step (by decide))
    · intro x w' hb hpre K hK
      have z00 := (hb.bl.cell (p := ⟨w.heap.size, 0, none⟩) l0).trans c00
      have z01 := (hb.bl.cell (p := ⟨w.heap.size, 1, none⟩) l0).trans c01
      have z10 := (hb.bl.cell (p := ⟨w.heap.size + 1, 0, none⟩) l1).trans c10
      have z11 := (hb.bl.cell (p := ⟨w.heap.size + 1, 1, none⟩) l1).trans c11
      clear hpre
      simp only [frL, Act.put, List.setIfInBounds_toArray, List.set_cons_zero, List.set_cons_succ, Nat.zero_add, Nat.reduceAdd] at hK ⊢
      have HK := Lib.hid hK
      clear hK
      refine Held.mk ?_
      go_simp
      exact HK.out _ (RD.refl _)
    -- 10: Op.load 3 (Operand.tmp 26)
    apply RC.ls_val (JD.step (by decide))
    · intro x w' hb hpre K hK
      have z00 := (hb.bl.cell (p := ⟨w.heap.size, 0, none⟩) l0).trans c00
      have z01 := (hb.bl.cell (p := ⟨w.heap.size, 1, none⟩) l0).trans c01
      have z10 := (hb.bl.cell (p := ⟨w.heap.size + 1, 0, none⟩) l1).trans c10
      have z11 := (hb.bl.cell (p := ⟨w.heap.size + 1, 1, none⟩) l1).trans c11
      simp [preds, Region.binds, RC.phi, RC.MP.val] at hpre
      simp only [frL, Act.put, List.setIfInBounds_toArray, List.set_cons_zero, List.set_cons_succ, Nat.zero_add, Nat.reduceAdd, hpre] at hK ⊢
      have HK := Lib.hid hK
      clear hK
      refine Held.mk ?_
      go_simp
      exact HK.out _ (RD.refl _)
    -- 11: Op.call { callee := Callee.value (Operand.func 136), args := #[Operand.tmp 27, O
    apply RC.ls_val (JD.step (by decide))
    · intro x w' hb hpre K hK
      have z00 := (hb.bl.cell (p := ⟨w.heap.size, 0, none⟩) l0).trans c00
      have z01 := (hb.bl.cell (p := ⟨w.heap.size, 1, none⟩) l0).trans c01
      have z10 := (hb.bl.cell (p := ⟨w.heap.size + 1, 0, none⟩) l1).trans c10
      have z11 := (hb.bl.cell (p := ⟨w.heap.size + 1, 1, none⟩) l1).trans c11
      simp [preds, Region.binds, RC.phi, RC.MP.val] at hpre
      simp only [frL, Act.put, List.setIfInBounds_toArray, List.set_cons_zero, List.set_cons_succ, Nat.zero_add, Nat.reduceAdd, hpre] at hK ⊢
      have HK := Lib.hid hK
      clear hK
      refine Held.mk ?_
      go_simp
      (with_reducible refine (WB.out _).mono ?_)
      rintro e w1 ⟨rfl, hb1⟩
      dsimp only
      exact HK.out _ (RD.ofBelow hb1 hb.bl.size)
    -- 12: Op.call { callee := Callee.value (Operand.func 138), args := #[Operand.tmp 25, O
    apply RC.ls_val (JD.step (by decide))
    · intro x w' hb hpre K hK
      have z00 := (hb.bl.cell (p := ⟨w.heap.size, 0, none⟩) l0).trans c00
      have z01 := (hb.bl.cell (p := ⟨w.heap.size, 1, none⟩) l0).trans c01
      have z10 := (hb.bl.cell (p := ⟨w.heap.size + 1, 0, none⟩) l1).trans c10
      have z11 := (hb.bl.cell (p := ⟨w.heap.size + 1, 1, none⟩) l1).trans c11
      simp [preds, Region.binds, RC.phi, RC.MP.val] at hpre
      simp only [frL, Act.put, List.setIfInBounds_toArray, List.set_cons_zero, List.set_cons_succ, Nat.zero_add, Nat.reduceAdd, hpre] at hK ⊢
      have HK := Lib.hid hK
      clear hK
      refine Held.mk ?_
      go_simp
      (with_reducible refine (WO.out _).mono ?_)
      rintro e w1 ⟨rfl, hb1⟩
      dsimp only
      exact HK.out _ (RD.ofBelow hb1 hb.bl.size)
    -- 13: Op.move (Operand.tmp 29)
    apply RC.ls_val (JD.step (by decide))
    · intro x w' hb hpre K hK
      have z00 := (hb.bl.cell (p := ⟨w.heap.size, 0, none⟩) l0).trans c00
      have z01 := (hb.bl.cell (p := ⟨w.heap.size, 1, none⟩) l0).trans c01
      have z10 := (hb.bl.cell (p := ⟨w.heap.size + 1, 0, none⟩) l1).trans c10
      have z11 := (hb.bl.cell (p := ⟨w.heap.size + 1, 1, none⟩) l1).trans c11
      simp [preds, Region.binds, RC.phi, RC.MP.val] at hpre
      simp only [frL, Act.put, List.setIfInBounds_toArray, List.set_cons_zero, List.set_cons_succ, Nat.zero_add, Nat.reduceAdd, hpre] at hK ⊢
      have HK := Lib.hid hK
      clear hK
      refine Held.mk ?_
      go_simp
      exact HK.out _ (RD.refl _)
    -- 14: Op.extract (Operand.tmp 16) 0
    apply RC.ls_val (JD.step (by decide))
    · intro x w' hb hpre K hK
      have z00 := (hb.bl.cell (p := ⟨w.heap.size, 0, none⟩) l0).trans c00
      have z01 := (hb.bl.cell (p := ⟨w.heap.size, 1, none⟩) l0).trans c01
      have z10 := (hb.bl.cell (p := ⟨w.heap.size + 1, 0, none⟩) l1).trans c10
      have z11 := (hb.bl.cell (p := ⟨w.heap.size + 1, 1, none⟩) l1).trans c11
      simp [preds, Region.binds, RC.phi, RC.MP.val] at hpre
      simp only [frL, Act.put, List.setIfInBounds_toArray, List.set_cons_zero, List.set_cons_succ, Nat.zero_add, Nat.reduceAdd, hpre] at hK ⊢
      have HK := Lib.hid hK
      clear hK
      refine Held.mk ?_
      go_simp
      exact HK.out _ (RD.refl _)
    -- 15: Op.extract (Operand.tmp 16) 1
    apply RC.ls_val (JD.step (by decide))
    · intro x w' hb hpre K hK
      have z00 := (hb.bl.cell (p := ⟨w.heap.size, 0, none⟩) l0).trans c00
      have z01 := (hb.bl.cell (p := ⟨w.heap.size, 1, none⟩) l0).trans c01
      have z10 := (hb.bl.cell (p := ⟨w.heap.size + 1, 0, none⟩) l1).trans c10
      have z11 := (hb.bl.cell (p := ⟨w.heap.size + 1, 1, none⟩) l1).trans c11
      simp [preds, Region.binds, RC.phi, RC.MP.val] at hpre
      simp only [frL, Act.put, List.setIfInBounds_toArray, List.set_cons_zero, List.set_cons_succ, Nat.zero_add, Nat.reduceAdd, hpre] at hK ⊢
      have HK := Lib.hid hK
      clear hK
      refine Held.mk ?_
      go_simp
      exact HK.out _ (RD.refl _)
    -- 16: Op.alloc 170
    refine RC.ls_genO MPbox ?_ ?_
    · intro x w' hb hj hpre ho K hK
      have ho18 : ∀ q, x 18 ≠ .pointer (some ⟨q, 0, none⟩) := fun q hq => by rw [ho 18 (by omega) (by kernel_rfl)] at hq; simp [orig, undef] at hq
      clear ho
      have z00 := (hb.bl.cell (p := ⟨w.heap.size, 0, none⟩) l0).trans c00
      have z01 := (hb.bl.cell (p := ⟨w.heap.size, 1, none⟩) l0).trans c01
      have z10 := (hb.bl.cell (p := ⟨w.heap.size + 1, 0, none⟩) l1).trans c10
      have z11 := (hb.bl.cell (p := ⟨w.heap.size + 1, 1, none⟩) l1).trans c11
      clear hpre
      simp only [frL, Act.put, List.setIfInBounds_toArray, List.set_cons_zero, List.set_cons_succ, Nat.zero_add, Nat.reduceAdd] at hK ⊢
      have HK := Lib.hid hK
      clear hK
      refine Held.mk ?_
      go_simp
      exact HK.out _ _ ⟨_, _, _, _, rfl, hb.bl.size, Blk.new _ _ _⟩ (hj.s16 ho18 _) (RD.ofBelow ((Below.refl _ _).alloc (Nat.le_refl _) _) hb.bl.size)
    -- 17: Op.alloc 170
    refine RC.ls_gen MPbox ?_ ?_
    · intro x w' hb hj hpre K hK
      have z00 := (hb.bl.cell (p := ⟨w.heap.size, 0, none⟩) l0).trans c00
      have z01 := (hb.bl.cell (p := ⟨w.heap.size, 1, none⟩) l0).trans c01
      have z10 := (hb.bl.cell (p := ⟨w.heap.size + 1, 0, none⟩) l1).trans c10
      have z11 := (hb.bl.cell (p := ⟨w.heap.size + 1, 1, none⟩) l1).trans c11
      clear hpre
      simp only [frL, Act.put, List.setIfInBounds_toArray, List.set_cons_zero, List.set_cons_succ, Nat.zero_add, Nat.reduceAdd] at hK ⊢
      have HK := Lib.hid hK
      clear hK
      refine Held.mk ?_
      go_simp
      exact HK.out _ _ ⟨_, _, _, _, rfl, hb.bl.size, Blk.new _ _ _⟩ (hj.s17 _) (RD.ofBelow ((Below.refl _ _).alloc (Nat.le_refl _) _) hb.bl.size)
    -- 18: Op.store 170 (Operand.tmp 6) (Operand.tmp 30)
    refine RC.ls_gen MPfin ?_ ?_
    · intro x w' hb hj hpre K hK
      have p0 := hpre.1 rfl
      have p1 := hpre.2.1 rfl
      clear hpre
      simp [RC.phi, MPbox] at p0
      simp [RC.phi, RC.MP.val] at p1
      obtain ⟨q, hq, hBq, y1, y2, y3, hy⟩ := p0
      obtain ⟨d0, d1', d2', e0, e1, e2⟩ := hy.three
      have hp := RD.put (B := w2.heap.size) HA.out hy hBq
      simp only [frL, Act.put, List.setIfInBounds_toArray, List.set_cons_zero, List.set_cons_succ, Nat.zero_add, Nat.reduceAdd, hq, p1] at hK ⊢
      have HK := Lib.hid hK
      clear hK
      refine Held.mk ?_
      go_simp
      exact HK.out (.pointer (some ⟨q, 0, none⟩)) _ ⟨q, rfl, hBq, hp.2⟩ (hj.s18 hp.1.bl.size hq) hp.1
    intro x w' hb hp hJ
    simp only [List.cons_append, List.nil_append, RC.phis, RC.MP.val, frL, Act.put, List.setIfInBounds_toArray, List.set_cons_zero, List.set_cons_succ, Nat.zero_add, Nat.reduceAdd] at hp ⊢
    obtain ⟨h0, h1, h2, h3, h4, h5, h6, h7, h8, h9, h10, h11, h12, h13, h14, h15, h16, h17, h18, -⟩ := hp
    simp only [h0, h1, h2, h3, h4, h5, h6, h7, h8, h9, h10, h11, h12, h13, h14, h15]
    clear h0 h1 h2 h3 h4 h5 h6 h7 h8 h9 h10 h11 h12 h13 h14 h15
    clear WA WB WO
    obtain ⟨q, hq, hBq, hBl⟩ : ∃ q, x 18 = .pointer (some ⟨q, 0, none⟩) ∧ w2.heap.size ≤ q ∧ Blk w' q A 170 := h18
    have hq6 := hJ.d q hq
    obtain ⟨q7, y1, y2, y3, hq7, hBq7, hy⟩ : ∃ q a b c, x 17 = .pointer (some ⟨q, 0, none⟩) ∧ w2.heap.size ≤ q ∧ Blk w' q #[a, b, c] 170 := h17
    have hne : q ≠ q7 := fun e => hJ.c q hq6 (by rw [e]; exact hq7)
    rw [HA.out] at hBl
    have G2 : Blk w' (w.heap.size + 1 + 1) #[.int .i64 0, .int .i64 0] 106 := F2.below hb.bl F2.lt
    have hu : Below w.heap.size w w' := hv.trans (hb.bl.mono hv.size)
    have l2 : w.heap.size + 1 + 1 < w2.heap.size := F2.lt
    simp only [hq6, hq7]
    clear h16 hJ hq hq6 hq7 hb c00 c01 c10 c11 F0 F1 F2 hv HA g1 g2 g3 g4
    obtain ⟨c20, c21, f20, f21⟩ := G2.two
    obtain ⟨d0, d1', d2, e0, e1, e2⟩ := hBl.three
    obtain ⟨p0, p1, p2, r0', r1', r2'⟩ := hy.three
    have n1 : w.heap.size + 1 + 1 ≠ q7 := by omega
    have n2 : q7 ≠ w.heap.size + 1 + 1 := by omega
    have n3 : q7 ≠ q := fun e => hne e.symm
    go_wp2_with (go_at_call 134; refine (WF.out _).mono ?_; rintro e w3 ⟨rfl, hb⟩
                 have H2 := (((G2.other n1 _).other n1 _).other n1 _).below hb (by have := G2.lt; simpa using this)
                 have hw3 : Below w.heap.size w w3 := (((hu.setCell (by simp; omega) _).setCell (by simp; omega) _).setCell (by simp; omega) _).trans (hb.mono (by have := hu.size; simpa using this))
                 obtain ⟨c30, c31, f30, f31⟩ := H2.two
                 clear hb)
    refine bodyPost_ret (v := .tuple #[.agg #[.int .i64 r1, .int .i64 r2], .int .i64 r3]) (by simp [results, Tryz.results79, go_sem, c30, c31]) rfl ⟨by rw [HDIV.out], ?_⟩
    go_grown
    all_goals first | exact hw3 | exact hw3.size
  · have hdiv : divF n s k t = (0, 0, 52) := by unfold divF; rw [ez]; rfl
    have ek : k = 0 := by simpa using ez
    have HDIV := Lib.hid hdiv
    clear hdiv
    subst ek
    go_wp2_with fail
    refine bodyPost_ret (v := .tuple #[.agg #[.int .i64 0, .int .i64 0], .int .i64 52]) (by simp [results, Tryz.results79, go_sem, c20, c21]) rfl ⟨by rw [HDIV.out], ?_⟩
    go_grown
    all_goals first | exact hw | exact hw.size
end Go.Proofs.YtfagfkfcokmclaaGreatDoor
end

/- The product. -/
section
set_option linter.unusedSimpArgs false
set_option linter.unusedVariables false
set_option linter.constructorNameAsVariable false
namespace Go.Proofs.YtfagfkfcokmclaaGreatDoor
open Go.RowKit

theorem mul_sgn (b1 b2 : Bool) (m d : Nat) : sgn (b1 != b2) (m * d) = sgn b1 m * sgn b2 d := by
  cases b1 <;> cases b2 <;> simp [sgn, Int.neg_mul, Int.mul_neg]
/-- Two boxes are two; the store's mark is the first. -/
structure JM (x : Nat → Value) (w : World) : Prop where
  a : ∀ q, x 6 = .pointer (some ⟨q, 0, none⟩) → q < w.heap.size
  b : ∀ q, x 7 = .pointer (some ⟨q, 0, none⟩) → q < w.heap.size
  c : ∀ q, x 6 = .pointer (some ⟨q, 0, none⟩) → x 7 = .pointer (some ⟨q, 0, none⟩) → False
  d : ∀ q, x 8 = .pointer (some ⟨q, 0, none⟩) → x 6 = .pointer (some ⟨q, 0, none⟩)
theorem JM.step {B : Nat} {t : TypeId} {F : Array Value} {i : Nat} (hi : (i != 6 && i != 7 && i != 8) = true) : ∀ x v w1 w2, JM x w1 → RD B t F w1 w2 → JM (upd x i v) w2 := fun x v w1 w2 h hr => by
  simp only [Bool.and_eq_true, bne_iff_ne] at hi
  have h6 : upd x i v 6 = x 6 := by simp [upd]; omega
  have h7 : upd x i v 7 = x 7 := by simp [upd]; omega
  have h8 : upd x i v 8 = x 8 := by simp [upd]; omega
  have := hr.bl.size
  exact ⟨fun q hq => by rw [h6] at hq; have := h.a q hq; omega, fun q hq => by rw [h7] at hq; have := h.b q hq; omega, fun q hq hq' => by rw [h6] at hq; rw [h7] at hq'; exact h.c q hq hq', fun q hq => by rw [h8] at hq; rw [h6]; exact h.d q hq⟩
theorem JM.s6 {x : Nat → Value} {w : World} (h : JM x w) (h0 : ∀ q, x 8 ≠ .pointer (some ⟨q, 0, none⟩)) (o : Obj) : JM (upd x 6 (.pointer (some ⟨w.heap.size, 0, none⟩))) (w.alloc o) := by
  have h6 : upd x 6 (.pointer (some ⟨w.heap.size, 0, none⟩)) 6 = .pointer (some ⟨w.heap.size, 0, none⟩) := by simp [upd]
  have h7 : upd x 6 (.pointer (some ⟨w.heap.size, 0, none⟩)) 7 = x 7 := by simp [upd]
  have h8 : upd x 6 (.pointer (some ⟨w.heap.size, 0, none⟩)) 8 = x 8 := by simp [upd]
  refine ⟨fun q hq => ?_, fun q hq => ?_, fun q hq hq' => ?_, fun q hq => ?_⟩
  · rw [h6] at hq; have := ptr_inj hq; simp; omega
  · rw [h7] at hq; have := h.b q hq; simp; omega
  · rw [h6] at hq; rw [h7] at hq'; have := ptr_inj hq; have := h.b q hq'; omega
  · rw [h8] at hq; exact absurd hq (h0 q)
theorem JM.s7 {x : Nat → Value} {w : World} (h : JM x w) (o : Obj) : JM (upd x 7 (.pointer (some ⟨w.heap.size, 0, none⟩))) (w.alloc o) := by
  have h6 : upd x 7 (.pointer (some ⟨w.heap.size, 0, none⟩)) 6 = x 6 := by simp [upd]
  have h7 : upd x 7 (.pointer (some ⟨w.heap.size, 0, none⟩)) 7 = .pointer (some ⟨w.heap.size, 0, none⟩) := by simp [upd]
  have h8 : upd x 7 (.pointer (some ⟨w.heap.size, 0, none⟩)) 8 = x 8 := by simp [upd]
  refine ⟨fun q hq => ?_, fun q hq => ?_, fun q hq hq' => ?_, fun q hq => ?_⟩
  · rw [h6] at hq; have := h.a q hq; simp; omega
  · rw [h7] at hq; have := ptr_inj hq; simp; omega
  · rw [h6] at hq; rw [h7] at hq'; have := ptr_inj hq'; have := h.a q hq; omega
  · rw [h8] at hq; rw [h6]; exact h.d q hq
theorem JM.s8 {x : Nat → Value} {w w' : World} (h : JM x w) (hs : w.heap.size ≤ w'.heap.size) {p : Nat} (hp : x 6 = .pointer (some ⟨p, 0, none⟩)) : JM (upd x 8 (.pointer (some ⟨p, 0, none⟩))) w' := by
  have h6 : upd x 8 (.pointer (some ⟨p, 0, none⟩)) 6 = x 6 := by simp [upd]
  have h7 : upd x 8 (.pointer (some ⟨p, 0, none⟩)) 7 = x 7 := by simp [upd]
  have h8 : upd x 8 (.pointer (some ⟨p, 0, none⟩)) 8 = .pointer (some ⟨p, 0, none⟩) := by simp [upd]
  refine ⟨fun q hq => ?_, fun q hq => ?_, fun q hq hq' => ?_, fun q hq => ?_⟩
  · rw [h6] at hq; have := h.a q hq; omega
  · rw [h7] at hq; have := h.b q hq; omega
  · rw [h6] at hq; rw [h7] at hq'; exact h.c q hq hq'
  · rw [h8] at hq; rw [h6, hp, hq]
set_option maxHeartbeats 8000000 in
theorem mul_any (n k : Int) (s t : Nat) (ha : Rt n s) (hB : Rt k t) (w : World) : Calls Tryz.prog 78 #[.agg #[.int .i64 n, .int .i64 (s : Int)], .agg #[.int .i64 k, .int .i64 (t : Int)]] w fun e w' =>
    e = .returned (.tuple #[.agg #[.int .i64 (mulF n s k t).1, .int .i64 (mulF n s k t).2.1], .int .i64 (mulF n s k t).2.2]) ∧ Below w.heap.size w w' := by
  have CA := Lib.hid (fun w => clean_right ha w)
  have CB := Lib.hid (fun w => clean_right hB w)
  have hs9 : s ≤ 9 := by have := ha.s9; omega
  have ht9 : t ≤ 9 := by have := hB.s9; omega
  go_enter Tryz.func78, Tryz.ntmps78
  go_wp2_with fail
  refine region_steps 4 [some 9, some 10, some 11, some 12] (by kernel_rfl) (by kernel_rfl) ?_
  -- 0: Op.load 106 (Operand.tmp 2)
  apply ls_val
  · intro x w' hb hpre K hK
    have hc := (bcell hb).1
    clear hpre
    simp only [frL, Act.put, List.setIfInBounds_toArray, List.set_cons_zero, List.set_cons_succ, Nat.zero_add, Nat.reduceAdd] at hK ⊢
    have HK := Lib.hid hK
    clear hK
    refine Held.mk ?_
    go_simp
    exact HK.out _ (Below.refl _ _)
  -- 1: Op.call { callee := Callee.value (Operand.func 135), args := #[Operand.tmp 9], argTypes :=
  apply ls_val
  · intro x w' hb hpre K hK
    have hc := (bcell hb).1
    simp [preds, Region.binds, phi, MP.val, MP.box, MP.row] at hpre
    simp only [frL, Act.put, List.setIfInBounds_toArray, List.set_cons_zero, List.set_cons_succ, Nat.zero_add, Nat.reduceAdd, hpre] at hK ⊢
    have HK := Lib.hid hK
    clear hK
    refine Held.mk ?_
    go_simp
    (with_reducible refine (CA.out _).mono ?_)
    rintro e w1 ⟨rfl, hb1⟩
    dsimp only
    exact HK.out _ hb1
  -- 2: Op.load 106 (Operand.tmp 3)
  apply ls_val
  · intro x w' hb hpre K hK
    have hc := (bcell hb).1
    clear hpre
    simp only [frL, Act.put, List.setIfInBounds_toArray, List.set_cons_zero, List.set_cons_succ, Nat.zero_add, Nat.reduceAdd] at hK ⊢
    have HK := Lib.hid hK
    clear hK
    refine Held.mk ?_
    go_simp
    exact HK.out _ (Below.refl _ _)
  -- 3: Op.call { callee := Callee.value (Operand.func 135), args := #[Operand.tmp 11], argTypes :
  apply ls_val
  · intro x w' hb hpre K hK
    have hc := (bcell hb).1
    simp [preds, Region.binds, phi, MP.val, MP.box, MP.row] at hpre
    simp only [frL, Act.put, List.setIfInBounds_toArray, List.set_cons_zero, List.set_cons_succ, Nat.zero_add, Nat.reduceAdd, hpre] at hK ⊢
    have HK := Lib.hid hK
    clear hK
    refine Held.mk ?_
    go_simp
    (with_reducible refine (CB.out _).mono ?_)
    rintro e w1 ⟨rfl, hb1⟩
    dsimp only
    exact HK.out _ hb1
  intro x w' hb hp
  simp only [List.cons_append, List.nil_append, phis, MP.val, MP.box, MP.row, frL, Act.put, List.setIfInBounds_toArray, List.set_cons_zero, List.set_cons_succ, Nat.zero_add, Nat.reduceAdd] at hp ⊢
  obtain ⟨h0, h1, h2, h3, -⟩ := hp
  simp only [h0, h1, h2, h3]
  clear h0 h1 h2 h3
  have E0 : Blk w' w.heap.size #[.int .i64 n, .int .i64 (s : Int)] 106 := (Blk.alloc (Blk.alloc (Blk.here rfl rfl) _) _).below hb (by simp; omega)
  have E1 : Blk w' (w.heap.size + 1) #[.int .i64 k, .int .i64 (t : Int)] 106 := (Blk.alloc (Blk.here rfl (by simp)) _).below hb (by simp)
  have E2 : Blk w' (w.heap.size + 1 + 1) #[.int .i64 0, .int .i64 0] 106 := (Blk.here rfl (by simp)).below hb (by simp)
  have hw : Below w.heap.size w w' := Below.trans (by go_grown) (hb.mono (by simp; omega))
  clear hb CA CB
  obtain ⟨c00, c01, f00, f01⟩ := E0.two
  obtain ⟨c10, c11, f10, f11⟩ := E1.two
  obtain ⟨c20, c21, f20, f21⟩ := E2.two
  obtain ⟨m1, hm1⟩ : ∃ m, m = n.natAbs * powN 0 := ⟨_, rfl⟩
  obtain ⟨m2, hm2⟩ : ∃ m, m = k.natAbs * powN 0 := ⟨_, rfl⟩
  obtain ⟨b1, hb1⟩ : ∃ b, b = decide (n < 0) := ⟨_, rfl⟩
  obtain ⟨b2, hb2⟩ : ∃ b, b = decide (k < 0) := ⟨_, rfl⟩
  have hlo := ha.lo; have hhi := ha.hi; have klo := hB.lo; have khi := hB.hi
  have z1 : m1 = n.natAbs := by rw [hm1, powN_zero, Nat.mul_one]
  have z2 : m2 = k.natAbs := by rw [hm2, powN_zero, Nat.mul_one]
  have WA := Lib.hid (fun w => widen_any n 0 (by omega) (by omega) (by omega) w)
  have WB := Lib.hid (fun w => widen_any k 0 (by omega) (by omega) (by omega) w)
  rw [← hb1, ← hm1] at WA
  rw [← hb2, ← hm2] at WB
  simp only [Int.natCast_zero] at WA WB
  have lo1 : loN m1 = m1 := by unfold loN; omega
  have lo2 : loN m2 = m2 := by unfold loN; omega
  have WO := Lib.hid (fun w => mul64_any m1 m2 (by omega) (by omega) w)
  have hmul : mulF n s k t = fitW (b1 != b2) (m1 * m2) (s + t) := by
    unfold mulF
    rw [fitW_Z, mul_sgn, z1, z2, hb1, hb2, sgn_Z, sgn_Z]
    congr 1
  have hmm : m1 * m2 ≤ 999999999999999999 * 999999999999999999 := Nat.mul_le_mul (by omega) (by omega)
  have WF := Lib.hid (fun w => fit_any (b1 != b2) (m1 * m2) (s + t) (by omega) (by omega) w)
  obtain ⟨M, hM⟩ : ∃ M, M = s + t := ⟨_, rfl⟩
  rw [← hM] at WF hmul
  obtain ⟨b3, hb3⟩ : ∃ b, b = (b1 != b2) := ⟨_, rfl⟩
  obtain ⟨m3, hm3⟩ : ∃ m, m = m1 * m2 := ⟨_, rfl⟩
  obtain ⟨r, hr⟩ : ∃ r, r = fitW b3 m3 M := ⟨_, rfl⟩
  rw [← hm3] at WO
  rw [← hb3, ← hm3, ← hr] at WF
  rw [← hb3, ← hm3, ← hr] at hmul
  obtain ⟨r1, r2, r3⟩ := r
  simp only at WF
  have HDIV := Lib.hid hmul
  have g2 : IntKind.i64.wrap ((s : Int) + (t : Int)) = (M : Int) := by rw [IntKind.wrap_i64]; omega
  have HB3 := Lib.hid hb3
  rw [lo1] at WA
  rw [lo2] at WB
  have hi1 : hiN m1 = 0 := by unfold hiN; omega
  have hi2 : hiN m2 = 0 := by unfold hiN; omega
  rw [hi1] at WA
  rw [hi2] at WB
  clear hM hmul hr hb3 hm3 hb1 hb2 hm1 hm2 z1 z2 lo1 lo2 hi1 hi2 hmm
  go_upto_region 2 with fail
  refine wp_worldT ?_
  intro w2 hw2
  have F0 : Blk w2 w.heap.size #[.int .i64 n, .int .i64 (s : Int)] 106 := by rw [hw2]; exact (((E0.set 0 _).set 1 _).other (by simp) _).other (by simp) _
  have F1 : Blk w2 (w.heap.size + 1) #[.int .i64 k, .int .i64 (t : Int)] 106 := by rw [hw2]; exact (((E1.other (by simp) _).other (by simp) _).set 0 _).set 1 _
  have F2 : Blk w2 (w.heap.size + 1 + 1) #[.int .i64 0, .int .i64 0] 106 := by rw [hw2]; exact (((E2.other (by simp; try omega) _).other (by simp; try omega) _).other (by simp; try omega) _).other (by simp; try omega) _
  have hv : Below w.heap.size w w2 := by rw [hw2]; exact (((hw.setCell (by simp) _).setCell (by simp) _).setCell (by simp) _).setCell (by simp) _
  clear hw2 c00 c01 c10 c11 c20 c21 f00 f01 f10 f11 f20 f21 E0 E1 E2 hw w' x
  obtain ⟨c00, c01, -, -⟩ := F0.two
  obtain ⟨c10, c11, -, -⟩ := F1.two
  have l0 : w.heap.size < w2.heap.size := F0.lt
  have l1 : w.heap.size + 1 < w2.heap.size := F1.lt
  obtain ⟨A, hA⟩ : ∃ A : Array Value, A = #[.bool b1, .int .u64 ((0 : Nat) : Int), .int .u64 ((m1 : Nat) : Int)] := ⟨_, rfl⟩
  have HA := Lib.hid hA
  clear hA
  refine RC.region_steps (R := RD w2.heap.size 170 A) 9 [some 13, some 14, some 15, some 16, some 17, some 18, some 6, some 7, none] JM RD.trans RD.drew (fun w9 => ⟨fun q hq => by simp [orig, undef] at hq, fun q hq => by simp [orig, undef] at hq, fun q hq => by simp [orig, undef] at hq, fun q hq => by simp [orig, undef] at hq⟩) (by kernel_rfl) (by kernel_rfl) ?_
  -- 0: Op.fieldAddr 106 (Operand.tmp 2) 0
  apply RC.ls_val (JM.step (by decide))
  · intro x w' hb hpre K hK
    have z00 := (hb.bl.cell (p := ⟨w.heap.size, 0, none⟩) l0).trans c00
    have z01 := (hb.bl.cell (p := ⟨w.heap.size, 1, none⟩) l0).trans c01
    have z10 := (hb.bl.cell (p := ⟨w.heap.size + 1, 0, none⟩) l1).trans c10
    have z11 := (hb.bl.cell (p := ⟨w.heap.size + 1, 1, none⟩) l1).trans c11
    clear hpre
    simp only [frL, Act.put, List.setIfInBounds_toArray, List.set_cons_zero, List.set_cons_succ, Nat.zero_add, Nat.reduceAdd] at hK ⊢
    have HK := Lib.hid hK
    clear hK
    refine Held.mk ?_
    go_simp
    exact HK.out _ (RD.refl _)
  -- 1: Op.load 3 (Operand.tmp 13)
  apply RC.ls_val (JM.step (by decide))
  · intro x w' hb hpre K hK
    have z00 := (hb.bl.cell (p := ⟨w.heap.size, 0, none⟩) l0).trans c00
    have z01 := (hb.bl.cell (p := ⟨w.heap.size, 1, none⟩) l0).trans c01
    have z10 := (hb.bl.cell (p := ⟨w.heap.size + 1, 0, none⟩) l1).trans c10
    have z11 := (hb.bl.cell (p := ⟨w.heap.size + 1, 1, none⟩) l1).trans c11
    simp [preds, Region.binds, RC.phi, RC.MP.val] at hpre
    simp only [frL, Act.put, List.setIfInBounds_toArray, List.set_cons_zero, List.set_cons_succ, Nat.zero_add, Nat.reduceAdd, hpre] at hK ⊢
    have HK := Lib.hid hK
    clear hK
    refine Held.mk ?_
    go_simp
    exact HK.out _ (RD.refl _)
  -- 2: Op.call { callee := Callee.value (Operand.func 136), args := #[Operand.tmp 14, O
  apply RC.ls_val (JM.step (by decide))
  · intro x w' hb hpre K hK
    have z00 := (hb.bl.cell (p := ⟨w.heap.size, 0, none⟩) l0).trans c00
    have z01 := (hb.bl.cell (p := ⟨w.heap.size, 1, none⟩) l0).trans c01
    have z10 := (hb.bl.cell (p := ⟨w.heap.size + 1, 0, none⟩) l1).trans c10
    have z11 := (hb.bl.cell (p := ⟨w.heap.size + 1, 1, none⟩) l1).trans c11
    simp [preds, Region.binds, RC.phi, RC.MP.val] at hpre
    simp only [frL, Act.put, List.setIfInBounds_toArray, List.set_cons_zero, List.set_cons_succ, Nat.zero_add, Nat.reduceAdd, hpre] at hK ⊢
    have HK := Lib.hid hK
    clear hK
    refine Held.mk ?_
    go_simp
    (with_reducible refine (WA.out _).mono ?_)
    rintro e w1 ⟨rfl, hb1⟩
    dsimp only
    exact HK.out _ (RD.ofBelow hb1 hb.bl.size)
  -- 3: Op.fieldAddr 106 (Operand.tmp 3) 0
  apply RC.ls_val (JM.step (by decide))
  · intro x w' hb hpre K hK
    have z00 := (hb.bl.cell (p := ⟨w.heap.size, 0, none⟩) l0).trans c00
    have z01 := (hb.bl.cell (p := ⟨w.heap.size, 1, none⟩) l0).trans c01
    have z10 := (hb.bl.cell (p := ⟨w.heap.size + 1, 0, none⟩) l1).trans c10
    have z11 := (hb.bl.cell (p := ⟨w.heap.size + 1, 1, none⟩) l1).trans c11
    clear hpre
    simp only [frL, Act.put, List.setIfInBounds_toArray, List.set_cons_zero, List.set_cons_succ, Nat.zero_add, Nat.reduceAdd] at hK ⊢
    have HK := Lib.hid hK
    clear hK
    refine Held.mk ?_
    go_simp
    exact HK.out _ (RD.refl _)
  -- 4: Op.load 3 (Operand.tmp 16)
  apply RC.ls_val (JM.step (by decide))
  · intro x w' hb hpre K hK
    have z00 := (hb.bl.cell (p := ⟨w.heap.size, 0, none⟩) l0).trans c00
    have z01 := (hb.bl.cell (p := ⟨w.heap.size, 1, none⟩) l0).trans c01
    have z10 := (hb.bl.cell (p := ⟨w.heap.size + 1, 0, none⟩) l1).trans c10
    have z11 := (hb.bl.cell (p := ⟨w.heap.size + 1, 1, none⟩) l1).trans c11
    simp [preds, Region.binds, RC.phi, RC.MP.val] at hpre
    simp only [frL, Act.put, List.setIfInBounds_toArray, List.set_cons_zero, List.set_cons_succ, Nat.zero_add, Nat.reduceAdd, hpre] at hK ⊢
    have HK := Lib.hid hK
    clear hK
    refine Held.mk ?_
    go_simp
    exact HK.out _ (RD.refl _)
  -- 5: Op.call { callee := Callee.value (Operand.func 136), args := #[Operand.tmp 17, O
  apply RC.ls_val (JM.step (by decide))
  · intro x w' hb hpre K hK
    have z00 := (hb.bl.cell (p := ⟨w.heap.size, 0, none⟩) l0).trans c00
    have z01 := (hb.bl.cell (p := ⟨w.heap.size, 1, none⟩) l0).trans c01
    have z10 := (hb.bl.cell (p := ⟨w.heap.size + 1, 0, none⟩) l1).trans c10
    have z11 := (hb.bl.cell (p := ⟨w.heap.size + 1, 1, none⟩) l1).trans c11
    simp [preds, Region.binds, RC.phi, RC.MP.val] at hpre
    simp only [frL, Act.put, List.setIfInBounds_toArray, List.set_cons_zero, List.set_cons_succ, Nat.zero_add, Nat.reduceAdd, hpre] at hK ⊢
    have HK := Lib.hid hK
    clear hK
    refine Held.mk ?_
    go_simp
    (with_reducible refine (WB.out _).mono ?_)
    rintro e w1 ⟨rfl, hb1⟩
    dsimp only
    exact HK.out _ (RD.ofBelow hb1 hb.bl.size)
  -- 6: Op.alloc 170
  refine RC.ls_genO MPbox ?_ ?_
  · intro x w' hb hj hpre ho K hK
    have ho8 : ∀ q, x 8 ≠ .pointer (some ⟨q, 0, none⟩) := fun q hq => by rw [ho 8 (by omega) (by kernel_rfl)] at hq; simp [orig, undef] at hq
    clear ho
    have z00 := (hb.bl.cell (p := ⟨w.heap.size, 0, none⟩) l0).trans c00
    have z01 := (hb.bl.cell (p := ⟨w.heap.size, 1, none⟩) l0).trans c01
    have z10 := (hb.bl.cell (p := ⟨w.heap.size + 1, 0, none⟩) l1).trans c10
    have z11 := (hb.bl.cell (p := ⟨w.heap.size + 1, 1, none⟩) l1).trans c11
    clear hpre
    simp only [frL, Act.put, List.setIfInBounds_toArray, List.set_cons_zero, List.set_cons_succ, Nat.zero_add, Nat.reduceAdd] at hK ⊢
    have HK := Lib.hid hK
    clear hK
    refine Held.mk ?_
    go_simp
    exact HK.out _ _ ⟨_, _, _, _, rfl, hb.bl.size, Blk.new _ _ _⟩ (hj.s6 ho8 _) (RD.ofBelow ((Below.refl _ _).alloc (Nat.le_refl _) _) hb.bl.size)
  -- 7: Op.alloc 170
  refine RC.ls_gen MPbox ?_ ?_
  · intro x w' hb hj hpre K hK
    have z00 := (hb.bl.cell (p := ⟨w.heap.size, 0, none⟩) l0).trans c00
    have z01 := (hb.bl.cell (p := ⟨w.heap.size, 1, none⟩) l0).trans c01
    have z10 := (hb.bl.cell (p := ⟨w.heap.size + 1, 0, none⟩) l1).trans c10
    have z11 := (hb.bl.cell (p := ⟨w.heap.size + 1, 1, none⟩) l1).trans c11
    clear hpre
    simp only [frL, Act.put, List.setIfInBounds_toArray, List.set_cons_zero, List.set_cons_succ, Nat.zero_add, Nat.reduceAdd] at hK ⊢
    have HK := Lib.hid hK
    clear hK
    refine Held.mk ?_
    go_simp
    exact HK.out _ _ ⟨_, _, _, _, rfl, hb.bl.size, Blk.new _ _ _⟩ (hj.s7 _) (RD.ofBelow ((Below.refl _ _).alloc (Nat.le_refl _) _) hb.bl.size)
  -- 8: Op.store 170 (Operand.tmp 6) (Operand.tmp 15)
  refine RC.ls_gen MPfin ?_ ?_
  · intro x w' hb hj hpre K hK
    have p0 := hpre.1 rfl
    have p1 := hpre.2.1 rfl
    clear hpre
    simp [RC.phi, MPbox] at p0
    simp [RC.phi, RC.MP.val] at p1
    obtain ⟨q, hq, hBq, y1, y2, y3, hy⟩ := p0
    obtain ⟨d0, d1', d2', e0, e1, e2⟩ := hy.three
    have hp := RD.put (B := w2.heap.size) HA.out hy hBq
    simp only [frL, Act.put, List.setIfInBounds_toArray, List.set_cons_zero, List.set_cons_succ, Nat.zero_add, Nat.reduceAdd, hq, p1] at hK ⊢
    have HK := Lib.hid hK
    clear hK
    refine Held.mk ?_
    go_simp
    exact HK.out (.pointer (some ⟨q, 0, none⟩)) _ ⟨q, rfl, hBq, hp.2⟩ (hj.s8 hp.1.bl.size hq) hp.1
  intro x w' hb hp hJ
  simp only [List.cons_append, List.nil_append, RC.phis, RC.MP.val, frL, Act.put, List.setIfInBounds_toArray, List.set_cons_zero, List.set_cons_succ, Nat.zero_add, Nat.reduceAdd] at hp ⊢
  obtain ⟨h0, h1, h2, h3, h4, h5, h6, h7, h8, -⟩ := hp
  simp only [h0, h1, h2, h3, h4, h5]
  clear h0 h1 h2 h3 h4 h5
  clear WA WB
  obtain ⟨q, hq, hBq, hBl⟩ : ∃ q, x 8 = .pointer (some ⟨q, 0, none⟩) ∧ w2.heap.size ≤ q ∧ Blk w' q A 170 := h8
  have hq6 := hJ.d q hq
  obtain ⟨q7, y1, y2, y3, hq7, hBq7, hy⟩ : ∃ q a b c, x 7 = .pointer (some ⟨q, 0, none⟩) ∧ w2.heap.size ≤ q ∧ Blk w' q #[a, b, c] 170 := h7
  have hne : q ≠ q7 := fun e => hJ.c q hq6 (by rw [e]; exact hq7)
  rw [HA.out] at hBl
  have G0 : Blk w' w.heap.size #[.int .i64 n, .int .i64 (s : Int)] 106 := F0.below hb.bl F0.lt
  have G1 : Blk w' (w.heap.size + 1) #[.int .i64 k, .int .i64 (t : Int)] 106 := F1.below hb.bl F1.lt
  have G2 : Blk w' (w.heap.size + 1 + 1) #[.int .i64 0, .int .i64 0] 106 := F2.below hb.bl F2.lt
  have hu : Below w.heap.size w w' := hv.trans (hb.bl.mono hv.size)
  have l2 : w.heap.size + 1 + 1 < w2.heap.size := F2.lt
  simp only [hq6, hq7]
  clear h6 hJ hq hq6 hq7 hb c00 c01 c10 c11 F0 F1 F2 hv HA
  obtain ⟨p0, p1, p2, r0', r1', r2'⟩ := hy.three
  go_upto_region 3 with fail
  refine wp_worldT ?_
  intro w3 hw3
  have n0 : w.heap.size ≠ q7 := by omega
  have n1 : w.heap.size + 1 ≠ q7 := by omega
  have n2 : w.heap.size + 1 + 1 ≠ q7 := by omega
  have Gq : Blk w3 q #[.bool b1, .int .u64 0, .int .u64 ((m1 : Nat) : Int)] 170 := by rw [hw3]; exact ((hBl.other hne _).other hne _).other hne _
  have Gz : Blk w3 q7 #[.bool b2, .int .u64 0, .int .u64 ((m2 : Nat) : Int)] 170 := by rw [hw3]; exact ((hy.set 0 _).set 1 _).set 2 _
  have H0 : Blk w3 w.heap.size #[.int .i64 n, .int .i64 (s : Int)] 106 := by rw [hw3]; exact ((G0.other n0 _).other n0 _).other n0 _
  have H1 : Blk w3 (w.heap.size + 1) #[.int .i64 k, .int .i64 (t : Int)] 106 := by rw [hw3]; exact ((G1.other n1 _).other n1 _).other n1 _
  have H2 : Blk w3 (w.heap.size + 1 + 1) #[.int .i64 0, .int .i64 0] 106 := by rw [hw3]; exact ((G2.other n2 _).other n2 _).other n2 _
  have hv : Below w.heap.size w w3 := by rw [hw3]; exact ((hu.setCell (by simp; omega) _).setCell (by simp; omega) _).setCell (by simp; omega) _
  clear hw3 G0 G1 G2 hu hBl hy p0 p1 p2 r0' r1' r2' n0 n1 n2 hne hBq hBq7 l0 l1 l2 w' x
  obtain ⟨c00, c01, f00, f01⟩ := H0.two
  obtain ⟨c10, c11, f10, f11⟩ := H1.two
  obtain ⟨d0, d1, d2, e0, e1, e2⟩ := Gq.three
  obtain ⟨g0, g1, g3, g4, g5, g6⟩ := Gz.three
  have k0 : w.heap.size < w3.heap.size := H0.lt
  have k1 : w.heap.size + 1 < w3.heap.size := H1.lt
  have k2 : q < w3.heap.size := Gq.lt
  have k3 : q7 < w3.heap.size := Gz.lt
  go_wp2_with (first
    | (go_at_call 137; refine (WO.out _).mono ?_; rintro e w4 ⟨rfl, rfl⟩)
    | (go_at_call 134; rw [show (!(b1 == b2)) = b3 from HB3.out.symm]
       with_reducible refine (WF.out _).mono ?_; rintro e w5 ⟨rfl, hb⟩
       have J2 := (H2.alloc _).below hb (by have := H2.lt; simp; omega)
       have hw5 : Below w.heap.size w w5 := (hv.alloc hv.size _).trans (hb.mono (by have := hv.size; simp; omega))
       obtain ⟨c50, c51, f50, f51⟩ := J2.two
       clear hb))
  refine bodyPost_ret (v := .tuple #[.agg #[.int .i64 r1, .int .i64 r2], .int .i64 r3]) (by simp [results, Tryz.results78, go_sem, c50, c51]) rfl ⟨by rw [HDIV.out], ?_⟩
  go_grown
  all_goals first | exact hw5 | exact hw5.size
end Go.Proofs.YtfagfkfcokmclaaGreatDoor
end

/- The document's operations by signs and digits are the numbers': plain. -/
section
set_option linter.unusedSimpArgs false
set_option linter.unusedVariables false
namespace Go.Proofs.YtfagfkfcokmclaaGreatDoor
open Go.RowKit

def sgnD (neg : Bool) (L : List Int) : Int := sgn neg (dval L).toNat
theorem sgnD_val {neg : Bool} {L : List Int} (h : Dg L) : sgnD neg L = if neg then -dval L else dval L := by
  unfold sgnD sgn
  have := dval_nonneg h
  cases neg
  · simp; omega
  · simp; omega
theorem sgnD_digs (n : Int) : sgnD (decide (n < 0)) (digs n.natAbs) = n := by
  unfold sgnD
  rw [(digs_spec n.natAbs).1]
  exact sgn_Z n
theorem sgnD_up {neg : Bool} {L : List Int} (h : Dg L) (hn : Nr L) (k : Nat) : sgnD neg (upL L k) = sgnD neg L * 10 ^ k := by
  obtain ⟨h1, h2, -, -⟩ := upL_spec h hn k
  rw [sgnD_val h2, sgnD_val h, h1]
  cases neg
  · simp
  · simp [Int.neg_mul]
theorem addD_spec (n1 n2 : Bool) {xs ys : List Int} (gx : Dg xs) (gy : Dg ys) (nx : Nr xs) (ny : Nr ys) : sgnD (addD n1 xs n2 ys).1 (addD n1 xs n2 ys).2 = sgnD n1 xs + sgnD n2 ys ∧ Dg (addD n1 xs n2 ys).2 ∧ Nr (addD n1 xs n2 ys).2 ∧ (addD n1 xs n2 ys).2.length ≤ max xs.length ys.length + 1 := by
  unfold addD
  cases e1 : (n1 == n2)
  · simp only [Bool.false_eq_true, if_false]
    cases e2 : decide (0 ≤ cmpL xs ys)
    · simp only [Bool.false_eq_true, if_false]
      have hl := cmpL_len' (by simpa using e2)
      have hv : dval xs ≤ dval ys := by
        have e2' : ¬ 0 ≤ cmpL xs ys := by simpa using e2
        rw [cmpL_val gx gy nx ny] at e2'
        unfold sgnI at e2'
        split at e2'
        · omega
        · split at e2' <;> omega
      obtain ⟨h1, h2, h3⟩ := minus_val gy gx hl hv
      refine ⟨?_, h2, h3, ?_⟩
      · rw [sgnD_val h2, sgnD_val gx, sgnD_val gy, h1]
        cases n1 <;> cases n2 <;> simp_all <;> omega
      · obtain ⟨-, -, -, k, e, hk⟩ := trimL_spec (minusL ys xs 0)
        have := (minusL_spec ys xs 0 gy gx (by omega) (by omega) hl).2.2
        rw [e, List.length_take]
        omega
    · simp only [if_true]
      have hl := cmpL_len (by simpa using e2)
      have hv : dval ys ≤ dval xs := by
        have e2' : 0 ≤ cmpL xs ys := by simpa using e2
        rw [cmpL_val gx gy nx ny] at e2'
        unfold sgnI at e2'
        split at e2'
        · omega
        · split at e2' <;> omega
      obtain ⟨h1, h2, h3⟩ := minus_val gx gy hl hv
      refine ⟨?_, h2, h3, ?_⟩
      · rw [sgnD_val h2, sgnD_val gx, sgnD_val gy, h1]
        cases n1 <;> cases n2 <;> simp_all <;> omega
      · obtain ⟨-, -, -, k, e, hk⟩ := trimL_spec (minusL xs ys 0)
        have := (minusL_spec xs ys 0 gx gy (by omega) (by omega) hl).2.2
        rw [e, List.length_take]
        omega
  · simp only [if_true]
    obtain ⟨h1, h2⟩ := plusL_spec xs ys 0 gx gy (by omega) (by omega)
    refine ⟨?_, h2, (plusL_nr xs ys 0 gx gy nx ny (by omega) (by omega)).1, plusL_len xs ys 0⟩
    rw [sgnD_val h2, sgnD_val gx, sgnD_val gy, h1]
    have : n1 = n2 := by simpa using e1
    subst this
    cases n1 <;> simp <;> omega
/-- What Fit answers, as a number, a scale and an error. -/
theorem fit_sgn (neg : Bool) {L : List Int} (h : Dg L) (s : Nat) : (if (fitD neg L s).2.2 then ((fitD neg L s).1, (fitD neg L s).2.1, (0 : Int)) else (0, 0, 53)) = fitZ (sgnD neg L) s := by
  rw [fitD_W neg h, fitW_Z]
  rfl
section
variable {n k : Int} {s t M : Nat} (ha : Rt n s) (hb : Rt k t) (hM : M = max s t)
include hM
theorem lvl_nat : lvl n s t = n * 10 ^ (M - s) ∧ lvl k t s = k * 10 ^ (M - t) ∧ (max (s : Int) (t : Int)).toNat = M := by
  unfold lvl
  have h1 : (max (s : Int) (t : Int) - (s : Int)).toNat = M - s := by omega
  have h2 : (max (t : Int) (s : Int) - (t : Int)).toNat = M - t := by omega
  rw [h1, h2]
  exact ⟨rfl, rfl, by omega⟩
theorem doc_add : fitZ (n * 10 ^ (M - s) + k * 10 ^ (M - t)) M = addF n s k t := by
  obtain ⟨h1, h2, h3⟩ := lvl_nat (n := n) (k := k) hM
  unfold addF
  rw [h1, h2, h3]
theorem doc_sub : fitZ (n * 10 ^ (M - s) + -(k * 10 ^ (M - t))) M = subF n s k t := by
  obtain ⟨h1, h2, h3⟩ := lvl_nat (n := n) (k := k) hM
  unfold subF
  rw [h1, h2, h3, Int.sub_eq_add_neg]
theorem doc_idiv (hk : k ≠ 0) : fitZ ((n * 10 ^ (M - s)).tdiv (k * 10 ^ (M - t))) 0 = idivF n s k t := by
  obtain ⟨h1, h2, h3⟩ := lvl_nat (n := n) (k := k) hM
  unfold idivF
  rw [h1, h2, if_neg (by simpa using hk)]
theorem doc_mod (hk : k ≠ 0) : fitZ ((n * 10 ^ (M - s)).tmod (k * 10 ^ (M - t))) M = modF n s k t := by
  obtain ⟨h1, h2, h3⟩ := lvl_nat (n := n) (k := k) hM
  unfold modF
  rw [h1, h2, h3, if_neg (by simpa using hk)]
end
theorem doc_mul (n k : Int) (s t : Nat) : fitZ (n * k) (s + t) = mulF n s k t := by
  unfold mulF
  congr 1
theorem doc_div (n k : Int) (s t : Nat) (hs : s ≤ 9) (hk : k ≠ 0) : fitZ ((n * 10 ^ (9 + t - s)).tdiv k) 9 = divF n s k t := by
  unfold divF
  rw [if_neg (by simpa using hk), show (9 + (t : Int) - (s : Int)).toNat = 9 + t - s by omega]
theorem sgnD_not {neg : Bool} {L : List Int} (h : Dg L) : sgnD (!neg) L = - sgnD neg L := by
  rw [sgnD_val h, sgnD_val h]
  cases neg <;> simp
/-- A quotient and a rest by digits. -/
theorem sgnD_div {n1 n2 : Bool} {xs ys Q R : List Int} (gx : Dg xs) (gy : Dg ys) (gq : Dg Q) (gr : Dg R) (h0 : 0 < dval ys) (hq : dval Q = dval xs / dval ys) (hr : dval R = dval xs % dval ys) : sgnD (!(n1 == n2)) Q = (sgnD n1 xs).tdiv (sgnD n2 ys) ∧ sgnD n1 R = (sgnD n1 xs).tmod (sgnD n2 ys) := by
  have hx := dval_nonneg gx
  have hQ := dval_nonneg gq
  have hR := dval_nonneg gr
  have e1 : (dval Q).toNat = (dval xs).toNat / (dval ys).toNat := by
    have : ((dval Q).toNat : Int) = ((dval xs).toNat / (dval ys).toNat : Nat) := by
      rw [Int.natCast_ediv, Int.toNat_of_nonneg hQ, Int.toNat_of_nonneg hx, Int.toNat_of_nonneg (by omega), hq]
    omega
  have e2 : (dval R).toNat = (dval xs).toNat % (dval ys).toNat := by
    have : ((dval R).toNat : Int) = ((dval xs).toNat % (dval ys).toNat : Nat) := by
      rw [Int.natCast_emod, Int.toNat_of_nonneg hR, Int.toNat_of_nonneg hx, Int.toNat_of_nonneg (by omega), hr]
    omega
  unfold sgnD
  rw [e1, e2, show (!(n1 == n2)) = (n1 != n2) from rfl, tdiv_sgn _ _ _ _ (by omega), tmod_sgn n1 n2]
  exact ⟨rfl, rfl⟩
end Go.Proofs.YtfagfkfcokmclaaGreatDoor
end

/- The document's operations: their walks. -/
section
set_option linter.unusedSimpArgs false
set_option linter.unusedVariables false
set_option linter.constructorNameAsVariable false
namespace Go.Proofs.YtfagfkfcokmclaaGreatDoor
open Go.RowKit

/-- A number of the document's is answered. -/
def BigOut (neg : Bool) (L : List Int) (w : World) (e : Ending) (w' : World) : Prop := ∃ g c, e = .returned (.agg #[.bool neg, .slice g L.length c]) ∧ IRow w' g L.length L ∧ L.length ≤ c ∧ (g = none → c = 0) ∧ (0 < L.length → ∀ b o, g = some ⟨b, o, none⟩ → w.heap.size ≤ b) ∧ Below w.heap.size w w'
theorem of_big (n : Int) (h0 : -9223372036854775808 ≤ n) (h1 : n ≤ 9223372036854775807) (w : World) : Calls Tryz.prog 56 #[.int .i64 n] w (BigOut (decide (n < 0)) (digs n.natAbs) w) := by
  refine (rof_any n h0 h1 w).mono ?_
  rintro e w' ⟨v, rfl, hO, hb⟩
  have hl := digs_len n.natAbs (by omega)
  obtain ⟨g, c, rfl, hI, hc, hg, hgb⟩ := hO.drow (by omega)
  exact ⟨g, c, rfl, hI, hc, hg, hgb, hb⟩
theorem up_big (neg : Bool) (a : Option Addr) (c : Nat) (xs : List Int) (k : Nat) (w : World) (hI : IRow w a xs.length xs) (hck : xs.length ≤ c) (h0 : a = none → c = 0) (hl : xs.length ≤ 2000000) (hk : k ≤ 2000000) : Calls Tryz.prog 55 #[.agg #[.bool neg, .slice a xs.length c], .int .i64 (k : Int)] w (BigOut neg (upL xs k) w) := by
  refine (up_any neg a c xs k w hI hck h0 hl hk).mono ?_
  rintro e w' ⟨v, rfl, hD, hb⟩
  obtain ⟨g, c, rfl, hI, hc, hg, hgb⟩ := hD
  exact ⟨g, c, rfl, hI, hc, hg, hgb, hb⟩
theorem add_big (n1 n2 : Bool) (a b : Option Addr) (c d : Nat) (xs ys : List Int) (w : World) (hI : IRow w a xs.length xs) (hJ : IRow w b ys.length ys) (gx : Dg xs) (gy : Dg ys) (hl : xs.length ≤ 2000000) (hm : ys.length ≤ 2000000) : Calls Tryz.prog 57 #[.agg #[.bool n1, .slice a xs.length c], .agg #[.bool n2, .slice b ys.length d]] w (BigOut (addD n1 xs n2 ys).1 (addD n1 xs n2 ys).2 w) := by
  refine (radd_any n1 n2 a b c d xs ys w hI hJ gx gy hl hm).mono ?_
  rintro e w' ⟨v, rfl, hD, hb⟩
  obtain ⟨g, c, rfl, hI, hc, hg, hgb⟩ := hD
  exact ⟨g, c, rfl, hI, hc, hg, hgb, hb⟩
/-- .. two. -/
def BigOut2 (n1 : Bool) (L : List Int) (n2 : Bool) (K : List Int) (w : World) (e : Ending) (w' : World) : Prop := ∃ g c p d, e = .returned (.tuple #[.agg #[.bool n1, .slice g L.length c], .agg #[.bool n2, .slice p K.length d]]) ∧ IRow w' g L.length L ∧ L.length ≤ c ∧ (g = none → c = 0) ∧ (0 < L.length → ∀ b o, g = some ⟨b, o, none⟩ → w.heap.size ≤ b) ∧ IRow w' p K.length K ∧ K.length ≤ d ∧ (p = none → d = 0) ∧ (0 < K.length → ∀ b o, p = some ⟨b, o, none⟩ → w.heap.size ≤ b) ∧ Below w.heap.size w w'
/-- A right number's digits. -/
theorem rt_digs {n s : Int} (h : Rt n s) : -9223372036854775808 ≤ n ∧ n ≤ 9223372036854775807 ∧ Dg (digs n.natAbs) ∧ Nr (digs n.natAbs) ∧ (digs n.natAbs).length ≤ 19 := by
  have h1 := h.lo
  have h2 := h.hi
  exact ⟨by omega, by omega, (digs_spec _).2.1, (digs_spec _).2.2.1, digs_len _ (by omega)⟩
theorem upL_len {L : List Int} (h : Dg L) (hn : Nr L) (k : Nat) : (upL L k).length ≤ k + L.length := (upL_spec h hn k).2.2.2
end Go.Proofs.YtfagfkfcokmclaaGreatDoor
end

/- The document's operations: their walks. -/
section
set_option linter.unusedSimpArgs false
set_option linter.unusedVariables false
set_option linter.constructorNameAsVariable false
namespace Go.Proofs.YtfagfkfcokmclaaGreatDoor
open Go.RowKit

theorem digs_le (n k : Nat) (h : (n : Int) < 10 ^ k) : (digs n).length ≤ k := by
  obtain ⟨h1, h2, h3, -⟩ := digs_spec n
  refine len_le h2 h3 k ?_
  rw [h1]
  exact h
theorem prod_spec (n1 n2 : Bool) {xs ys : List Int} (gx : Dg xs) (gy : Dg ys) : Dg (digs ((dval xs).toNat * (dval ys).toNat)) ∧ (digs ((dval xs).toNat * (dval ys).toNat)).length ≤ xs.length + ys.length ∧ sgnD (!(n1 == n2)) (digs ((dval xs).toNat * (dval ys).toNat)) = sgnD n1 xs * sgnD n2 ys := by
  have hx := dval_nonneg gx
  have hy := dval_nonneg gy
  have lx := dval_lt gx
  have ly := dval_lt gy
  have hp := pow10_pos ys.length
  refine ⟨(digs_spec _).2.1, digs_le _ _ ?_, ?_⟩
  · rw [Int.natCast_mul, Int.toNat_of_nonneg hx, Int.toNat_of_nonneg hy, Int.pow_add]
    calc dval xs * dval ys ≤ dval xs * 10 ^ ys.length := Int.mul_le_mul_of_nonneg_left (by omega) hx
      _ < 10 ^ xs.length * 10 ^ ys.length := Int.mul_lt_mul_of_pos_right lx hp
  · have e : (dval (digs ((dval xs).toNat * (dval ys).toNat))).toNat = (dval xs).toNat * (dval ys).toNat := by rw [(digs_spec _).1]; omega
    unfold sgnD
    rw [e, show (!(n1 == n2)) = (n1 != n2) from rfl, mul_sgn]
theorem quo_spec (n1 n2 : Bool) {xs ys : List Int} (gx : Dg xs) (gy : Dg ys) (h0 : 0 < dval ys) : Dg (digs ((dval xs).toNat / (dval ys).toNat)) ∧ Dg (digs ((dval xs).toNat % (dval ys).toNat)) ∧ (digs ((dval xs).toNat / (dval ys).toNat)).length ≤ xs.length ∧ (digs ((dval xs).toNat % (dval ys).toNat)).length ≤ xs.length ∧
    sgnD (!(n1 == n2)) (digs ((dval xs).toNat / (dval ys).toNat)) = (sgnD n1 xs).tdiv (sgnD n2 ys) ∧ sgnD n1 (digs ((dval xs).toNat % (dval ys).toNat)) = (sgnD n1 xs).tmod (sgnD n2 ys) := by
  have hx := dval_nonneg gx
  have lx := dval_lt gx
  have q1 := Nat.div_le_self (dval xs).toNat (dval ys).toNat
  have q2 := Nat.mod_le (dval xs).toNat (dval ys).toNat
  have g1 := (digs_spec ((dval xs).toNat / (dval ys).toNat))
  have g2 := (digs_spec ((dval xs).toNat % (dval ys).toNat))
  have hs := sgnD_div (n1 := n1) (n2 := n2) gx gy g1.2.1 g2.2.1 h0
    (by rw [g1.1, Int.natCast_ediv, Int.toNat_of_nonneg hx, Int.toNat_of_nonneg (by omega)])
    (by rw [g2.1, Int.natCast_emod, Int.toNat_of_nonneg hx, Int.toNat_of_nonneg (by omega)])
  exact ⟨g1.2.1, g2.2.1, digs_le _ _ (by omega), digs_le _ _ (by omega), hs.1, hs.2⟩
theorem wp_worldD {P : Program} {c : Code} {Q : Exit → Act → World → Prop} {a : Act} {w : World} (h : ∀ W, W = w → c.wp P Q a W) : c.wp P Q a w := h w rfl
end Go.Proofs.YtfagfkfcokmclaaGreatDoor
end

/- The document's operations: Div. -/
section
set_option linter.unusedSimpArgs false
set_option linter.unusedVariables false
set_option linter.constructorNameAsVariable false
namespace Go.Proofs.YtfagfkfcokmclaaGreatDoor
open Go.RowKit

/-- A block that holds a number of the document's. -/
def Bx (w : World) (q : Nat) : Prop := ∃ u g n c, Blk w q #[.bool u, .slice g n c] 79
theorem irow_bx {w : World} {q : Nat} (hB : Bx w q) {a : Option Addr} {n : Nat} {xs : List Int} (h : IRow w a n xs) (u v : Value) : IRow ((w.setCell ⟨q, 0, none⟩ u).setCell ⟨q, 1, none⟩ v) a n xs := by
  obtain ⟨u0, g0, n0, c0, hB⟩ := hB
  have hne : 0 < n → ∀ b o, a = some ⟨b, o, none⟩ → b ≠ q := fun hn b o e => by
    obtain ⟨b', o', e', hl, hc⟩ := h.2.2 hn
    rw [e] at e'
    cases e'
    intro he
    subst he
    have hx : ∃ x, xs[0]? = some x := ⟨xs[0]'(by have := h.1; omega), by simp⟩
    obtain ⟨x, hx⟩ := hx
    have := hc 0 x hx
    rw [hB.cell] at this
    match o, this with
    | 0, h => simp at h
    | 1, h => simp at h
    | o + 2, h => simp at h
  exact (h.other u fun hn b o e => hne hn b o e).other v fun hn b o e => hne hn b o e
/-- Rows stay, such blocks stay such. -/
structure RB (B : Nat) (w w' : World) : Prop where
  bl : Below B w w'
  rows : ∀ a n xs, IRow w a n xs → IRow w' a n xs
  box : ∀ q, Bx w q → Bx w' q
theorem RB.refl {B : Nat} (w : World) : RB B w w := ⟨Below.refl _ _, fun _ _ _ h => h, fun _ h => h⟩
theorem RB.trans {B : Nat} : ∀ a b c, RB B a b → RB B b c → RB B a c := fun _ _ _ h1 h2 => ⟨h1.bl.trans h2.bl, fun a n xs h => h2.rows a n xs (h1.rows a n xs h), fun q h => h2.box q (h1.box q h)⟩
theorem RB.drew {B : Nat} (w : World) : RB B w { w with drawn := w.drawn + 1 } := ⟨(Below.refl _ _).drew, fun _ _ _ h => h, fun _ h => h⟩
theorem RB.of {B : Nat} {w w' : World} (hb : Below w.heap.size w w') (hB : B ≤ w.heap.size) : RB B w w' :=
  ⟨hb.mono hB, fun _ _ _ h => h.below hb (Nat.le_refl _), fun _ ⟨u, g, n, c, h⟩ => ⟨u, g, n, c, h.below hb h.lt⟩⟩
theorem RB.put {B : Nat} {w : World} {q : Nat} (hB : Bx w q) (hq : B ≤ q) (u : Bool) (g : Option Addr) (n c : Nat) : RB B w ((w.setCell ⟨q, 0, none⟩ (.bool u)).setCell ⟨q, 1, none⟩ (.slice g n c)) := by
  refine ⟨((Below.refl _ _).setCell (by simpa using hq) _).setCell (by simpa using hq) _, fun a n xs h => irow_bx hB h _ _, fun q' h => ?_⟩
  by_cases e : q' = q
  · subst e
    obtain ⟨u0, g0, n0, c0, hB⟩ := hB
    exact ⟨u, g, n, c, (hB.set 0 _).set 1 _⟩
  · obtain ⟨u0, g0, n0, c0, h⟩ := h
    exact ⟨u0, g0, n0, c0, (h.other e _).other e _⟩
def MPbig (B : Nat) (neg : Bool) (L : List Int) : RJ.MP (RB B) := ⟨fun v w => ∃ g c, v = .agg #[.bool neg, .slice g L.length c] ∧ IRow w g L.length L ∧ L.length ≤ c ∧ (g = none → c = 0), fun _ _ _ ⟨g, c, h1, h2, h3⟩ hr => ⟨g, c, h1, hr.rows _ _ _ h2, h3⟩⟩
def MPtwo (B : Nat) (n1 : Bool) (L : List Int) (n2 : Bool) (K : List Int) : RJ.MP (RB B) := ⟨fun v w => ∃ g c p d, v = .tuple #[.agg #[.bool n1, .slice g L.length c], .agg #[.bool n2, .slice p K.length d]] ∧ IRow w g L.length L ∧ IRow w p K.length K ∧ (L.length ≤ c ∧ (g = none → c = 0)) ∧ K.length ≤ d ∧ (p = none → d = 0), fun _ _ _ ⟨g, c, p, d, h1, h2, h3, h4⟩ hr => ⟨g, c, p, d, h1, hr.rows _ _ _ h2, hr.rows _ _ _ h3, h4⟩⟩
def MPbx (B : Nat) : RJ.MP (RB B) := ⟨fun v w => ∃ q, v = .pointer (some ⟨q, 0, none⟩) ∧ B ≤ q ∧ Bx w q, fun _ _ _ ⟨q, h1, h2, h3⟩ hr => ⟨q, h1, h2, hr.box q h3⟩⟩
/-- Two boxes are two; the first one's store. -/
structure JV (x : Nat → Value) (w : World) : Prop where
  a : ∀ q, x 11 = .pointer (some ⟨q, 0, none⟩) → q < w.heap.size ∧ x 12 ≠ .pointer (some ⟨q, 0, none⟩)
  c : ∀ q, x 12 = .pointer (some ⟨q, 0, none⟩) → q < w.heap.size
  b : x 13 = .bool true → ∃ q u v, x 11 = .pointer (some ⟨q, 0, none⟩) ∧ x 9 = .agg #[u, v] ∧ Blk w q #[u, v] 79
theorem JV.pre {x : Nat → Value} {w w' : World} (h : JV x w) (h13 : x 13 = undef) {i : Nat} (hi : (i != 11 && i != 12 && i != 13) = true) (v : Value) (hs : w.heap.size ≤ w'.heap.size) : JV (upd x i v) w' := by
  simp only [Bool.and_eq_true, bne_iff_ne] at hi
  have e11 : upd x i v 11 = x 11 := by simp [upd]; omega
  have e12 : upd x i v 12 = x 12 := by simp [upd]; omega
  have e13 : upd x i v 13 = x 13 := by simp [upd]; omega
  refine ⟨fun q hq => ?_, fun q hq => ?_, fun h' => ?_⟩
  · rw [e11] at hq
    rw [e12]
    exact ⟨Nat.lt_of_lt_of_le (h.a q hq).1 hs, (h.a q hq).2⟩
  · rw [e12] at hq
    exact Nat.lt_of_lt_of_le (h.c q hq) hs
  · rw [e13, h13] at h'
    simp [undef] at h'
theorem JV.ten {x : Nat → Value} {w : World} (h : JV x w) (v : Value) : JV (upd x 10 v) w := by
  have e9 : upd x 10 v 9 = x 9 := by simp [upd]
  have e11 : upd x 10 v 11 = x 11 := by simp [upd]
  have e12 : upd x 10 v 12 = x 12 := by simp [upd]
  have e13 : upd x 10 v 13 = x 13 := by simp [upd]
  exact ⟨fun q hq => by rw [e11] at hq; rw [e12]; exact h.a q hq, fun q hq => by rw [e12] at hq; exact h.c q hq, fun h' => by rw [e13] at h'; rw [e9, e11]; exact h.b h'⟩
theorem JV.n11 {x : Nat → Value} {w : World} (h : JV x w) (h13 : x 13 = undef) (o : Obj) : JV (upd x 11 (.pointer (some ⟨w.heap.size, 0, none⟩))) (w.alloc o) := by
  have e11 : upd x 11 (.pointer (some ⟨w.heap.size, 0, none⟩)) 11 = .pointer (some ⟨w.heap.size, 0, none⟩) := by simp [upd]
  have e12 : upd x 11 (.pointer (some ⟨w.heap.size, 0, none⟩)) 12 = x 12 := by simp [upd]
  have e13 : upd x 11 (.pointer (some ⟨w.heap.size, 0, none⟩)) 13 = x 13 := by simp [upd]
  refine ⟨fun q hq => ?_, fun q hq => ?_, fun h' => ?_⟩
  · rw [e11] at hq
    have hq := ptr_inj hq
    subst hq
    rw [e12]
    refine ⟨by simp, fun hx => ?_⟩
    have := h.c _ hx
    omega
  · rw [e12] at hq
    have := h.c q hq
    simp; omega
  · rw [e13, h13] at h'
    simp [undef] at h'
theorem JV.n12 {x : Nat → Value} {w : World} (h : JV x w) (h13 : x 13 = undef) (o : Obj) : JV (upd x 12 (.pointer (some ⟨w.heap.size, 0, none⟩))) (w.alloc o) := by
  have e11 : upd x 12 (.pointer (some ⟨w.heap.size, 0, none⟩)) 11 = x 11 := by simp [upd]
  have e12 : upd x 12 (.pointer (some ⟨w.heap.size, 0, none⟩)) 12 = .pointer (some ⟨w.heap.size, 0, none⟩) := by simp [upd]
  have e13 : upd x 12 (.pointer (some ⟨w.heap.size, 0, none⟩)) 13 = x 13 := by simp [upd]
  refine ⟨fun q hq => ?_, fun q hq => ?_, fun h' => ?_⟩
  · rw [e11] at hq
    have h1 := (h.a q hq).1
    rw [e12]
    refine ⟨by simp; omega, fun hx => ?_⟩
    have := ptr_inj hx
    omega
  · rw [e12] at hq
    have := ptr_inj hq
    simp; omega
  · rw [e13, h13] at h'
    simp [undef] at h'
theorem JV.put {x : Nat → Value} {w w' : World} (h : JV x w) (hs : w.heap.size ≤ w'.heap.size) {q : Nat} {u v : Value} (h11 : x 11 = .pointer (some ⟨q, 0, none⟩)) (h9 : x 9 = .agg #[u, v]) (hB : Blk w' q #[u, v] 79) : JV (upd x 13 (.bool true)) w' := by
  have e9 : upd x 13 (.bool true) 9 = x 9 := by simp [upd]
  have e11 : upd x 13 (.bool true) 11 = x 11 := by simp [upd]
  have e12 : upd x 13 (.bool true) 12 = x 12 := by simp [upd]
  refine ⟨fun q hq => ?_, fun q hq => ?_, fun _ => ?_⟩
  · rw [e11] at hq
    rw [e12]
    exact ⟨Nat.lt_of_lt_of_le (h.a q hq).1 hs, (h.a q hq).2⟩
  · rw [e12] at hq
    exact Nat.lt_of_lt_of_le (h.c q hq) hs
  · rw [e9, e11]
    exact ⟨q, u, v, h11, h9, hB⟩
end Go.Proofs.YtfagfkfcokmclaaGreatDoor
end

/- The document's order of two numbers. -/
section
set_option linter.unusedSimpArgs false
set_option linter.unusedVariables false
set_option linter.constructorNameAsVariable false
namespace Go.Proofs.YtfagfkfcokmclaaGreatDoor
open Go.RowKit

theorem cmp_sgn {neg : Bool} {L : List Int} (h : Dg L) (hn : Nr L) {n k : Int} {s t : Nat} (hz : sgnD neg L = lvl n s t - lvl k t s) : cmpF n s k t = if (trimL L).length == 0 then 0 else if neg then -1 else 1 := by
  rw [trimL_id h hn]
  unfold cmpF
  rw [← hz, sgnD_val h]
  have h0 := dval_nonneg h
  cases L with
  | nil =>
    have : dval ([] : List Int) = 0 := rfl
    rw [this]
    cases neg <;> simp
  | cons d l =>
    have hp := dval_pos h hn (by simp)
    cases neg
    · simp only [Bool.false_eq_true, if_false]
      rw [if_neg (by simp; omega), if_neg (by simp; omega)]
      simp
    · simp only [if_true]
      rw [if_neg (by simp; omega), if_pos (by simp; omega)]
      simp
theorem bigout_drow {w w' : World} {g : Option Addr} {c base : Nat} {L : List Int} (h1 : IRow w' g L.length L) (h2 : L.length ≤ c) (h3 : g = none → c = 0) (h4 : 0 < L.length → ∀ b o, g = some ⟨b, o, none⟩ → w.heap.size ≤ b) (hb : base ≤ w.heap.size) : DRow w' base (.slice g L.length c) L :=
  ⟨g, c, rfl, h1, h2, h3, fun h b o e => Nat.le_trans hb (h4 h b o e)⟩
set_option maxRecDepth 100000 in
set_option maxHeartbeats 1000000 in
theorem rcmp_any (n k : Int) (s t : Nat) (ha : Rt n s) (hB : Rt k t) (w : World) : Calls Tryz.prog 22 #[.int .i64 n, .int .i64 (s : Int), .int .i64 k, .int .i64 (t : Int)] w fun e w' =>
    e = .returned (.int .i64 (cmpF n s k t)) ∧ Below w.heap.size w w' := by
  obtain ⟨na, nb, gX, nX, lX⟩ := rt_digs ha
  obtain ⟨ka, kb, gY, nY, lY⟩ := rt_digs hB
  have s9 : s ≤ 9 := by have := ha.s9; omega
  have t9 : t ≤ 9 := by have := hB.s9; omega
  clear ha hB
  obtain ⟨M, hM⟩ : ∃ M, M = max s t := ⟨_, rfl⟩
  have hM9 : M ≤ 9 := by omega
  have hmax : max (s : Int) (t : Int) = (M : Int) := by omega
  have hmax2 : max s t = M := hM.symm
  have sM : s ≤ M := by omega
  have tM : t ≤ M := by omega
  have HM := Lib.hid hM
  clear hM
  have q1 : ((M - s : Nat) : Int) = (M : Int) - (s : Int) := by omega
  have q2 : ((M - t : Nat) : Int) = (M : Int) - (t : Int) := by omega
  have j1 : IntKind.i64.wrap ((M : Int) - (s : Int)) = (M : Int) - (s : Int) := IntWalk.i64_in _ (by omega)
  have j2 : IntKind.i64.wrap ((M : Int) - (t : Int)) = (M : Int) - (t : Int) := IntWalk.i64_in _ (by omega)
  have vX := sgnD_digs n
  have vY := sgnD_digs k
  have OA := Lib.hid (fun w => of_big n na nb w)
  have OB := Lib.hid (fun w => of_big k ka kb w)
  have hk0 : dval (digs k.natAbs) = (k.natAbs : Int) := (digs_spec _).1
  obtain ⟨b1, hb1⟩ : ∃ b1, b1 = decide (n < 0) := ⟨_, rfl⟩
  obtain ⟨b2, hb2⟩ : ∃ b2, b2 = decide (k < 0) := ⟨_, rfl⟩
  obtain ⟨X, hX⟩ : ∃ X, X = digs n.natAbs := ⟨_, rfl⟩
  obtain ⟨Y, hY⟩ : ∃ Y, Y = digs k.natAbs := ⟨_, rfl⟩
  rw [← hb1, ← hX] at OA vX
  rw [← hb2, ← hY] at OB vY
  rw [← hX] at gX nX lX
  rw [← hY] at gY nY lY hk0
  clear hb1 hb2 hX hY na nb ka kb
  have uX := sgnD_up (neg := b1) gX nX (M - s)
  have uY := sgnD_up (neg := b2) gY nY (M - t)
  obtain ⟨-, gU, nU, lU⟩ := upL_spec gX nX (M - s)
  obtain ⟨vV, gV, nV, lV⟩ := upL_spec gY nY (M - t)
  have UX := Lib.hid (fun g c w h h1 h2 => up_big b1 g c X (M - s) w h h1 h2 (by omega) (by omega))
  have UY := Lib.hid (fun g c w h h1 h2 => up_big b2 g c Y (M - t) w h h1 h2 (by omega) (by omega))
  rw [vX] at uX
  rw [vY] at uY
  obtain ⟨U, hU⟩ : ∃ U, U = upL X (M - s) := ⟨_, rfl⟩
  obtain ⟨V, hV⟩ : ∃ V, V = upL Y (M - t) := ⟨_, rfl⟩
  rw [← hU] at uX gU nU lU UX
  rw [← hV] at uY gV nV lV UY vV
  have lU2 : U.length ≤ 28 := by omega
  have lV2 : V.length ≤ 28 := by omega
  simp only [q1] at UX
  simp only [q2] at UY
  clear hU hV lU lV q1 q2
  have AD := Lib.hid (fun a b c d w h1 h2 => add_big b1 (!b2) a b c d U V w h1 h2 gU gV (by omega) (by omega))
  obtain ⟨hs1, gL, nL, lL⟩ := addD_spec b1 (!b2) gU gV nU nV
  rw [uX, sgnD_not gV, uY] at hs1
  have hlv := lvl_nat (n := n) (k := k) HM.out
  obtain ⟨nl, hnl⟩ : ∃ nl, nl = (addD b1 U (!b2) V).1 := ⟨_, rfl⟩
  obtain ⟨L, hL⟩ : ∃ L, L = (addD b1 U (!b2) V).2 := ⟨_, rfl⟩
  rw [← hnl, ← hL] at AD hs1
  rw [← hL] at gL nL lL
  have hz : sgnD nl L = lvl n s t - lvl k t s := by rw [hs1, hlv.1, hlv.2.1, Int.sub_eq_add_neg]
  have hcm := cmp_sgn gL nL hz
  have hTl : (trimL L).length ≤ L.length := by rw [trimL_id gL nL]; exact Nat.le_refl _
  obtain ⟨T, hT⟩ : ∃ T, T = trimL L := ⟨_, rfl⟩
  have TR := Lib.hid (fun g c w h h1 h2 => trim_any g c L w h h1 h2 (by omega))
  rw [← hT] at hcm hTl
  simp only [← hT] at TR
  rw [hcm]
  clear vX vY uX uY gX gY gU gV gL nX nY nU nV vV hk0 hs1 nL hnl hL hz hcm hT hlv
  cases eT : (T.length == 0)
  rotate_left
  · simp only [if_true]
    have hw : Below w.heap.size w w := Below.refl _ _
    go_enter Tryz.func22, Tryz.ntmps22
    go_upto_region 4 with (first
      | (go_at_call 56
         with_reducible refine (OB.out _).mono ?_
         rintro e w1 ⟨g2, c2, rfl, IY, hc2, hn2, -, hb⟩
         have hs := hb
         have hw1 : Below w.heap.size w w1 := hw.trans (hs.mono hw.size)
         have Yw1 := Lib.hid IY
         clear IY
         clear hb hs)
      | (go_at_call 55
         with_reducible refine (UY.out g2 c2 _ Yw1.out hc2 hn2).mono ?_
         rintro e w2 ⟨g4, c4, rfl, IV, hc4, hn4, -, hb⟩
         have hs := hb
         have hw2 : Below w.heap.size w w2 := hw1.trans (hs.mono hw1.size)
         have Vw2 := Lib.hid IV
         clear IV
         clear hb hs Yw1))
    refine wp_worldD ?_
    intro w3 hw3e
    have Dw3 : Blk w3 w2.heap.size #[.bool (!b2), .slice g4 V.length c4] 79 := by rw [hw3e]; exact Blk.here rfl rfl
    have hw3 : Below w.heap.size w w3 := by rw [hw3e]; exact hw2.alloc hw2.size _
    have Vw3 := Lib.hid (Vw2.out.below (show Below w2.heap.size w2 w3 from by rw [hw3e]; exact (Below.refl _ _).alloc (Nat.le_refl _) _) (Nat.le_refl _))
    clear hw3e Vw2
    obtain ⟨cD0, cD1, fD0, fD1⟩ := Dw3.two
    have kDw3 : w2.heap.size < w3.heap.size := Dw3.lt
    refine region_steps 9 [some 25, some 26, some 27, some 28, some 29, some 30, some 31, some 32, some 11] (by kernel_rfl) (by kernel_rfl) ?_
    -- 0: Op.move (Operand.tmp 0)
    apply ls_val
    · intro x w' hb hpre K hK
      have hc := (bcell hb).1
      clear hpre
      simp only [frL, Act.put, List.setIfInBounds_toArray, List.set_cons_zero, List.set_cons_succ, Nat.zero_add, Nat.reduceAdd] at hK ⊢
      have HK := Lib.hid hK
      clear hK
      refine Held.mk ?_
      go_simp
      exact HK.out _ (Below.refl _ _)
    -- 1: Op.call { callee := Callee.value (Operand.func 56), args := #[Operand.tmp 25], argTypes :=
    refine ls_gen (MP.big w3.heap.size b1 X) ?_ ?_
    · intro x w' hb hpre K hK
      simp [preds, Region.binds, phi, MP.val, MP.box, MP.big] at hpre
      simp only [frL, Act.put, List.setIfInBounds_toArray, List.set_cons_zero, List.set_cons_succ, Nat.zero_add, Nat.reduceAdd, hpre] at hK ⊢
      have HK := Lib.hid hK
      clear hK
      refine Held.mk ?_
      go_simp
      (with_reducible refine (OA.out _).mono ?_)
      rintro e w1 ⟨g, c, rfl, hI, hc, hn, hgb, hb1⟩
      dsimp only
      exact HK.out _ _ ⟨_, rfl, bigout_drow hI hc hn hgb hb.size⟩ hb1
    -- 2: Op.move (Operand.tmp 9)
    apply ls_val
    · intro x w' hb hpre K hK
      have hc := (bcell hb).1
      clear hpre
      simp only [frL, Act.put, List.setIfInBounds_toArray, List.set_cons_zero, List.set_cons_succ, Nat.zero_add, Nat.reduceAdd] at hK ⊢
      have HK := Lib.hid hK
      clear hK
      refine Held.mk ?_
      go_simp
      exact HK.out _ (Below.refl _ _)
    -- 3: Op.move (Operand.tmp 1)
    apply ls_val
    · intro x w' hb hpre K hK
      have hc := (bcell hb).1
      clear hpre
      simp only [frL, Act.put, List.setIfInBounds_toArray, List.set_cons_zero, List.set_cons_succ, Nat.zero_add, Nat.reduceAdd] at hK ⊢
      have HK := Lib.hid hK
      clear hK
      refine Held.mk ?_
      go_simp
      exact HK.out _ (Below.refl _ _)
    -- 4: Op.binOp BinOp.sub 3 (Operand.tmp 27) (Operand.tmp 28) 3
    apply ls_val
    · intro x w' hb hpre K hK
      have hc := (bcell hb).1
      simp [preds, Region.binds, phi, MP.val, MP.box, MP.row] at hpre
      simp only [frL, Act.put, List.setIfInBounds_toArray, List.set_cons_zero, List.set_cons_succ, Nat.zero_add, Nat.reduceAdd, hpre] at hK ⊢
      have HK := Lib.hid hK
      clear hK
      refine Held.mk ?_
      go_simp
      exact HK.out _ (Below.refl _ _)
    -- 5: Op.call { callee := Callee.value (Operand.func 55), args := #[Operand.tmp 26, Operand.tmp 
    refine ls_gen (MP.big w3.heap.size b1 U) ?_ ?_
    · intro x w' hb hpre K hK
      simp [preds, Region.binds, phi, MP.val, MP.box, MP.big] at hpre
      obtain ⟨⟨u, hp1, g, c, hu, hI, hc, hn, -⟩, hp4⟩ := hpre
      subst hu
      simp only [frL, Act.put, List.setIfInBounds_toArray, List.set_cons_zero, List.set_cons_succ, Nat.zero_add, Nat.reduceAdd, hp1, hp4] at hK ⊢
      have HK := Lib.hid hK
      clear hK
      refine Held.mk ?_
      go_simp
      refine (UX.out g c w' hI hc hn).mono ?_
      rintro e w1 ⟨g', c', rfl, hI', hc', hn', hgb, hb1⟩
      dsimp only
      exact HK.out _ _ ⟨_, rfl, bigout_drow hI' hc' hn' hgb hb.size⟩ hb1
    -- 6: Op.load 79 (Operand.tmp 10)
    apply ls_val
    · intro x w' hb hpre K hK
      have hc := (bcell hb).1
      clear hpre
      simp only [frL, Act.put, List.setIfInBounds_toArray, List.set_cons_zero, List.set_cons_succ, Nat.zero_add, Nat.reduceAdd] at hK ⊢
      have HK := Lib.hid hK
      clear hK
      refine Held.mk ?_
      go_simp
      exact HK.out _ (Below.refl _ _)
    -- 7: Op.call { callee := Callee.value (Operand.func 57), args := #[Operand.tmp 30, Operand.tmp 
    refine ls_gen (MP.big w3.heap.size nl L) ?_ ?_
    · intro x w' hb hpre K hK
      simp [preds, Region.binds, phi, MP.val, MP.box, MP.big] at hpre
      obtain ⟨⟨u, hp5, g, c, hu, hI, hc, hn, -⟩, hp6⟩ := hpre
      subst hu
      simp only [frL, Act.put, List.setIfInBounds_toArray, List.set_cons_zero, List.set_cons_succ, Nat.zero_add, Nat.reduceAdd, hp5, hp6] at hK ⊢
      have HK := Lib.hid hK
      clear hK
      refine Held.mk ?_
      go_simp
      refine (AD.out g g4 c c4 w' hI (Vw3.out.below hb (Nat.le_refl _))).mono ?_
      rintro e w1 ⟨g', c', rfl, hI', hc', hn', hgb, hb1⟩
      dsimp only
      exact HK.out _ _ ⟨_, rfl, bigout_drow hI' hc' hn' hgb hb.size⟩ hb1
    -- 8: Op.alloc 79
    refine ls_gen (.box w3.heap.size #[.bool false, .slice none 0 0] 79) ?_ ?_
    · intro x w' hb hpre K hK
      have hc := (bcell hb).1
      clear hpre
      simp only [frL, Act.put, List.setIfInBounds_toArray, List.set_cons_zero, List.set_cons_succ, Nat.zero_add, Nat.reduceAdd] at hK ⊢
      have HK := Lib.hid hK
      clear hK
      refine Held.mk ?_
      go_simp
      exact HK.out _ _ ⟨_, rfl, hb.size, Blk.new _ _ _⟩ ((Below.refl _ _).alloc (Nat.le_refl _) _)
    intro x w' hb hp
    simp only [List.cons_append, List.nil_append, phis, MP.val, MP.box, MP.row, frL, Act.put, List.setIfInBounds_toArray, List.set_cons_zero, List.set_cons_succ, Nat.zero_add, Nat.reduceAdd] at hp ⊢
    obtain ⟨h0, h1, h2, h3, h4, h5, h6, h7, ⟨q8, h8, hq8, hB8⟩, -⟩ := hp
    simp only [h0, h2, h3, h4, h6]
    clear h0 h2 h3 h4 h6
    obtain ⟨u, hx7, g5, c5, hu, IL, hc5, hn5, hg5⟩ : ∃ u, x 7 = .agg #[.bool nl, u] ∧ ∃ g c, u = .slice g L.length c ∧ IRow w' g L.length L ∧ L.length ≤ c ∧ (g = none → c = 0) ∧ (0 < L.length → ∀ b o, g = some ⟨b, o, none⟩ → w3.heap.size ≤ b) := h7
    subst hu
    simp only [hx7, h8]
    have hw' : Below w.heap.size w w' := hw3.trans (hb.mono hw3.size)
    have kq : q8 < w'.heap.size := hB8.lt
    obtain ⟨cq0, cq1, fq0, fq1⟩ := hB8.two
    have hwq := hw3.size
    clear h1 h5 hx7 h8 hb cD0 cD1 fD0 fD1 Dw3 Vw3 kDw3
    go_upto_region 5 with fail
    refine wp_worldD ?_
    intro w4 hw4e
    have IL4 : IRow w4 g5 L.length L := by rw [hw4e]; exact irow_bx ⟨_, _, _, _, hB8⟩ IL _ _
    have hw4 : Below w.heap.size w w4 := by rw [hw4e]; exact (hw'.setCell (by simp; omega) _).setCell (by simp; omega) _
    have B4 : Blk w4 q8 #[.bool nl, .slice g5 L.length c5] 79 := by rw [hw4e]; exact (hB8.set 0 _).set 1 _
    clear hw4e cq0 cq1 fq0 fq1
    obtain ⟨cq0, cq1, fq0, fq1⟩ := B4.two
    have kq4 : q8 < w4.heap.size := B4.lt
    go_wp2_with (go_at_call 58; with_reducible refine (TR.out g5 c5 _ IL4 hc5 hn5).mono ?_; rintro e w5 ⟨rfl, rfl⟩)
    go_returns
    exact ⟨rfl, hw4⟩
  · simp only [Bool.false_eq_true, if_false]
    have hw : Below w.heap.size w w := Below.refl _ _
    go_enter Tryz.func22, Tryz.ntmps22
    go_upto_region 4 with (first
      | (go_at_call 56
         with_reducible refine (OB.out _).mono ?_
         rintro e w1 ⟨g2, c2, rfl, IY, hc2, hn2, -, hb⟩
         have hs := hb
         have hw1 : Below w.heap.size w w1 := hw.trans (hs.mono hw.size)
         have Yw1 := Lib.hid IY
         clear IY
         clear hb hs)
      | (go_at_call 55
         with_reducible refine (UY.out g2 c2 _ Yw1.out hc2 hn2).mono ?_
         rintro e w2 ⟨g4, c4, rfl, IV, hc4, hn4, -, hb⟩
         have hs := hb
         have hw2 : Below w.heap.size w w2 := hw1.trans (hs.mono hw1.size)
         have Vw2 := Lib.hid IV
         clear IV
         clear hb hs Yw1))
    refine wp_worldD ?_
    intro w3 hw3e
    have Dw3 : Blk w3 w2.heap.size #[.bool (!b2), .slice g4 V.length c4] 79 := by rw [hw3e]; exact Blk.here rfl rfl
    have hw3 : Below w.heap.size w w3 := by rw [hw3e]; exact hw2.alloc hw2.size _
    have Vw3 := Lib.hid (Vw2.out.below (show Below w2.heap.size w2 w3 from by rw [hw3e]; exact (Below.refl _ _).alloc (Nat.le_refl _) _) (Nat.le_refl _))
    clear hw3e Vw2
    obtain ⟨cD0, cD1, fD0, fD1⟩ := Dw3.two
    have kDw3 : w2.heap.size < w3.heap.size := Dw3.lt
    refine region_steps 9 [some 25, some 26, some 27, some 28, some 29, some 30, some 31, some 32, some 11] (by kernel_rfl) (by kernel_rfl) ?_
    -- 0: Op.move (Operand.tmp 0)
    apply ls_val
    · intro x w' hb hpre K hK
      have hc := (bcell hb).1
      clear hpre
      simp only [frL, Act.put, List.setIfInBounds_toArray, List.set_cons_zero, List.set_cons_succ, Nat.zero_add, Nat.reduceAdd] at hK ⊢
      have HK := Lib.hid hK
      clear hK
      refine Held.mk ?_
      go_simp
      exact HK.out _ (Below.refl _ _)
    -- 1: Op.call { callee := Callee.value (Operand.func 56), args := #[Operand.tmp 25], argTypes :=
    refine ls_gen (MP.big w3.heap.size b1 X) ?_ ?_
    · intro x w' hb hpre K hK
      simp [preds, Region.binds, phi, MP.val, MP.box, MP.big] at hpre
      simp only [frL, Act.put, List.setIfInBounds_toArray, List.set_cons_zero, List.set_cons_succ, Nat.zero_add, Nat.reduceAdd, hpre] at hK ⊢
      have HK := Lib.hid hK
      clear hK
      refine Held.mk ?_
      go_simp
      (with_reducible refine (OA.out _).mono ?_)
      rintro e w1 ⟨g, c, rfl, hI, hc, hn, hgb, hb1⟩
      dsimp only
      exact HK.out _ _ ⟨_, rfl, bigout_drow hI hc hn hgb hb.size⟩ hb1
    -- 2: Op.move (Operand.tmp 9)
    apply ls_val
    · intro x w' hb hpre K hK
      have hc := (bcell hb).1
      clear hpre
      simp only [frL, Act.put, List.setIfInBounds_toArray, List.set_cons_zero, List.set_cons_succ, Nat.zero_add, Nat.reduceAdd] at hK ⊢
      have HK := Lib.hid hK
      clear hK
      refine Held.mk ?_
      go_simp
      exact HK.out _ (Below.refl _ _)
    -- 3: Op.move (Operand.tmp 1)
    apply ls_val
    · intro x w' hb hpre K hK
      have hc := (bcell hb).1
      clear hpre
      simp only [frL, Act.put, List.setIfInBounds_toArray, List.set_cons_zero, List.set_cons_succ, Nat.zero_add, Nat.reduceAdd] at hK ⊢
      have HK := Lib.hid hK
      clear hK
      refine Held.mk ?_
      go_simp
      exact HK.out _ (Below.refl _ _)
    -- 4: Op.binOp BinOp.sub 3 (Operand.tmp 27) (Operand.tmp 28) 3
    apply ls_val
    · intro x w' hb hpre K hK
      have hc := (bcell hb).1
      simp [preds, Region.binds, phi, MP.val, MP.box, MP.row] at hpre
      simp only [frL, Act.put, List.setIfInBounds_toArray, List.set_cons_zero, List.set_cons_succ, Nat.zero_add, Nat.reduceAdd, hpre] at hK ⊢
      have HK := Lib.hid hK
      clear hK
      refine Held.mk ?_
      go_simp
      exact HK.out _ (Below.refl _ _)
    -- 5: Op.call { callee := Callee.value (Operand.func 55), args := #[Operand.tmp 26, Operand.tmp 
    refine ls_gen (MP.big w3.heap.size b1 U) ?_ ?_
    · intro x w' hb hpre K hK
      simp [preds, Region.binds, phi, MP.val, MP.box, MP.big] at hpre
      obtain ⟨⟨u, hp1, g, c, hu, hI, hc, hn, -⟩, hp4⟩ := hpre
      subst hu
      simp only [frL, Act.put, List.setIfInBounds_toArray, List.set_cons_zero, List.set_cons_succ, Nat.zero_add, Nat.reduceAdd, hp1, hp4] at hK ⊢
      have HK := Lib.hid hK
      clear hK
      refine Held.mk ?_
      go_simp
      refine (UX.out g c w' hI hc hn).mono ?_
      rintro e w1 ⟨g', c', rfl, hI', hc', hn', hgb, hb1⟩
      dsimp only
      exact HK.out _ _ ⟨_, rfl, bigout_drow hI' hc' hn' hgb hb.size⟩ hb1
    -- 6: Op.load 79 (Operand.tmp 10)
    apply ls_val
    · intro x w' hb hpre K hK
      have hc := (bcell hb).1
      clear hpre
      simp only [frL, Act.put, List.setIfInBounds_toArray, List.set_cons_zero, List.set_cons_succ, Nat.zero_add, Nat.reduceAdd] at hK ⊢
      have HK := Lib.hid hK
      clear hK
      refine Held.mk ?_
      go_simp
      exact HK.out _ (Below.refl _ _)
    -- 7: Op.call { callee := Callee.value (Operand.func 57), args := #[Operand.tmp 30, Operand.tmp 
    refine ls_gen (MP.big w3.heap.size nl L) ?_ ?_
    · intro x w' hb hpre K hK
      simp [preds, Region.binds, phi, MP.val, MP.box, MP.big] at hpre
      obtain ⟨⟨u, hp5, g, c, hu, hI, hc, hn, -⟩, hp6⟩ := hpre
      subst hu
      simp only [frL, Act.put, List.setIfInBounds_toArray, List.set_cons_zero, List.set_cons_succ, Nat.zero_add, Nat.reduceAdd, hp5, hp6] at hK ⊢
      have HK := Lib.hid hK
      clear hK
      refine Held.mk ?_
      go_simp
      refine (AD.out g g4 c c4 w' hI (Vw3.out.below hb (Nat.le_refl _))).mono ?_
      rintro e w1 ⟨g', c', rfl, hI', hc', hn', hgb, hb1⟩
      dsimp only
      exact HK.out _ _ ⟨_, rfl, bigout_drow hI' hc' hn' hgb hb.size⟩ hb1
    -- 8: Op.alloc 79
    refine ls_gen (.box w3.heap.size #[.bool false, .slice none 0 0] 79) ?_ ?_
    · intro x w' hb hpre K hK
      have hc := (bcell hb).1
      clear hpre
      simp only [frL, Act.put, List.setIfInBounds_toArray, List.set_cons_zero, List.set_cons_succ, Nat.zero_add, Nat.reduceAdd] at hK ⊢
      have HK := Lib.hid hK
      clear hK
      refine Held.mk ?_
      go_simp
      exact HK.out _ _ ⟨_, rfl, hb.size, Blk.new _ _ _⟩ ((Below.refl _ _).alloc (Nat.le_refl _) _)
    intro x w' hb hp
    simp only [List.cons_append, List.nil_append, phis, MP.val, MP.box, MP.row, frL, Act.put, List.setIfInBounds_toArray, List.set_cons_zero, List.set_cons_succ, Nat.zero_add, Nat.reduceAdd] at hp ⊢
    obtain ⟨h0, h1, h2, h3, h4, h5, h6, h7, ⟨q8, h8, hq8, hB8⟩, -⟩ := hp
    simp only [h0, h2, h3, h4, h6]
    clear h0 h2 h3 h4 h6
    obtain ⟨u, hx7, g5, c5, hu, IL, hc5, hn5, hg5⟩ : ∃ u, x 7 = .agg #[.bool nl, u] ∧ ∃ g c, u = .slice g L.length c ∧ IRow w' g L.length L ∧ L.length ≤ c ∧ (g = none → c = 0) ∧ (0 < L.length → ∀ b o, g = some ⟨b, o, none⟩ → w3.heap.size ≤ b) := h7
    subst hu
    simp only [hx7, h8]
    have hw' : Below w.heap.size w w' := hw3.trans (hb.mono hw3.size)
    have kq : q8 < w'.heap.size := hB8.lt
    obtain ⟨cq0, cq1, fq0, fq1⟩ := hB8.two
    have hwq := hw3.size
    clear h1 h5 hx7 h8 hb cD0 cD1 fD0 fD1 Dw3 Vw3 kDw3
    go_upto_region 5 with fail
    refine wp_worldD ?_
    intro w4 hw4e
    have IL4 : IRow w4 g5 L.length L := by rw [hw4e]; exact irow_bx ⟨_, _, _, _, hB8⟩ IL _ _
    have hw4 : Below w.heap.size w w4 := by rw [hw4e]; exact (hw'.setCell (by simp; omega) _).setCell (by simp; omega) _
    have B4 : Blk w4 q8 #[.bool nl, .slice g5 L.length c5] 79 := by rw [hw4e]; exact (hB8.set 0 _).set 1 _
    clear hw4e cq0 cq1 fq0 fq1
    obtain ⟨cq0, cq1, fq0, fq1⟩ := B4.two
    have kq4 : q8 < w4.heap.size := B4.lt
    cases nl
    all_goals
      go_wp2_with (go_at_call 58; with_reducible refine (TR.out g5 c5 _ IL4 hc5 hn5).mono ?_; rintro e w5 ⟨rfl, rfl⟩)
      go_returns
      exact ⟨rfl, hw4⟩
end Go.Proofs.YtfagfkfcokmclaaGreatDoor
end
