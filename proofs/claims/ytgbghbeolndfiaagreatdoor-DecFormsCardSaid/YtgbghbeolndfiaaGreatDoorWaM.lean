/- The quotient. -/
import Derived.Test.YtgbghbeolndfiaaGreatDoorWaI
import Derived.Test.YtgbghbeolndfiaaGreatDoorWaE
import Derived.Test.YtgbghbeolndfiaaGreatDoorLoC
set_option linter.unusedSimpArgs false
set_option linter.unusedVariables false
set_option linter.constructorNameAsVariable false
namespace Go.Proofs.YtgbghbeolndfiaaGreatDoor
open Go.RowKit

theorem tdiv_sgn (b1 b2 : Bool) (m d : Nat) (hd : 0 < d) : sgn (b1 != b2) (m / d) = (sgn b1 m).tdiv (sgn b2 d) := by
  cases b1 <;> cases b2 <;> simp [sgn, Int.neg_tdiv, Int.tdiv_neg]
theorem tmod_sgn (b1 b2 : Bool) (m d : Nat) : sgn b1 (m % d) = (sgn b1 m).tmod (sgn b2 d) := by
  cases b1 <;> cases b2 <;> simp [sgn, Int.neg_tmod, Int.tmod_neg] <;> exact (Int.tmod_eq_emod_of_nonneg (by omega)).symm
/-- Boxes of the call's own are filled with one thing or another; what lies below them stays. -/
structure RD (B : Nat) (t : TypeId) (F : Array Value) (w w' : World) : Prop where
  bl : Below B w w'
  k : ∀ q a b c, Blk w q #[a, b, c] t → B ≤ q → ∃ a' b' c', Blk w' q #[a', b', c'] t
  g : ∀ q, Blk w q F t → Blk w' q F t
section
variable {B : Nat} {t : TypeId} {F : Array Value}
theorem RD.refl (w : World) : RD B t F w w := ⟨Below.refl _ _, fun _ _ _ _ h _ => ⟨_, _, _, h⟩, fun _ h => h⟩
theorem RD.trans : ∀ a b c, RD B t F a b → RD B t F b c → RD B t F a c := fun a b c h1 h2 =>
  ⟨h1.bl.trans h2.bl, fun q x y z h hq => by obtain ⟨x', y', z', h'⟩ := h1.k q x y z h hq; exact h2.k q _ _ _ h' hq, fun q h => h2.g q (h1.g q h)⟩
theorem RD.drew (w : World) : RD B t F w { w with drawn := w.drawn + 1 } := ⟨(Below.refl _ _).drew, fun _ _ _ _ h _ => ⟨_, _, _, h⟩, fun _ h => h⟩
theorem RD.ofBelow {w w' : World} (hb : Below w.heap.size w w') (hS : B ≤ w.heap.size) : RD B t F w w' :=
  ⟨hb.mono hS, fun _ a b c h _ => ⟨a, b, c, h.below hb h.lt⟩, fun _ h => h.below hb h.lt⟩
theorem RD.put {w : World} {q : Nat} {a b c x y z : Value} (hf : F = #[x, y, z]) (h : Blk w q #[a, b, c] t) (hS : B ≤ q) :
    RD B t F w (((w.setCell ⟨q, 0, none⟩ x).setCell ⟨q, 1, none⟩ y).setCell ⟨q, 2, none⟩ z) ∧ Blk (((w.setCell ⟨q, 0, none⟩ x).setCell ⟨q, 1, none⟩ y).setCell ⟨q, 2, none⟩ z) q F t := by
  subst hf
  have hB : Blk (((w.setCell ⟨q, 0, none⟩ x).setCell ⟨q, 1, none⟩ y).setCell ⟨q, 2, none⟩ z) q #[x, y, z] t := ((h.set 0 _).set 1 _).set 2 _
  refine ⟨⟨(((Below.refl _ _).setCell (by simpa using hS) _).setCell (by simpa using hS) _).setCell (by simpa using hS) _, fun q' a' b' c' h' _ => ?_, fun q' h' => ?_⟩, hB⟩
  · by_cases e : q' = q
    · subst e; exact ⟨_, _, _, hB⟩
    · exact ⟨a', b', c', ((h'.other e _).other e _).other e _⟩
  · by_cases e : q' = q
    · subst e; exact hB
    · exact ((h'.other e _).other e _).other e _
def MPbox : RC.MP (RD B t F) := ⟨fun v w => ∃ q a b c, v = .pointer (some ⟨q, 0, none⟩) ∧ B ≤ q ∧ Blk w q #[a, b, c] t, fun _ _ _ ⟨q, a, b, c, h1, h2, h3⟩ hr => by obtain ⟨a', b', c', h⟩ := hr.k q a b c h3 h2; exact ⟨q, a', b', c', h1, h2, h⟩⟩
def MPfin : RC.MP (RD B t F) := ⟨fun v w => ∃ q, v = .pointer (some ⟨q, 0, none⟩) ∧ B ≤ q ∧ Blk w q F t, fun _ _ _ ⟨q, h1, h2, h3⟩ hr => ⟨q, h1, h2, hr.g q h3⟩⟩
end
/-- Two boxes are two; the store's mark is the first. -/
structure JD (x : Nat → Value) (w : World) : Prop where
  a : ∀ q, x 16 = .pointer (some ⟨q, 0, none⟩) → q < w.heap.size
  b : ∀ q, x 17 = .pointer (some ⟨q, 0, none⟩) → q < w.heap.size
  c : ∀ q, x 16 = .pointer (some ⟨q, 0, none⟩) → x 17 = .pointer (some ⟨q, 0, none⟩) → False
  d : ∀ q, x 18 = .pointer (some ⟨q, 0, none⟩) → x 16 = .pointer (some ⟨q, 0, none⟩)
theorem JD.step {B : Nat} {t : TypeId} {F : Array Value} {i : Nat} (hi : (i != 16 && i != 17 && i != 18) = true) : ∀ x v w1 w2, JD x w1 → RD B t F w1 w2 → JD (upd x i v) w2 := fun x v w1 w2 h hr => by
  simp only [Bool.and_eq_true, bne_iff_ne] at hi
  have h6 : upd x i v 16 = x 16 := by simp [upd]; omega
  have h7 : upd x i v 17 = x 17 := by simp [upd]; omega
  have h8 : upd x i v 18 = x 18 := by simp [upd]; omega
  have := hr.bl.size
  exact ⟨fun q hq => by rw [h6] at hq; have := h.a q hq; omega, fun q hq => by rw [h7] at hq; have := h.b q hq; omega, fun q hq hq' => by rw [h6] at hq; rw [h7] at hq'; exact h.c q hq hq', fun q hq => by rw [h8] at hq; rw [h6]; exact h.d q hq⟩
theorem ptr_inj {p q : Nat} (h : (Value.pointer (some ⟨p, 0, none⟩)) = .pointer (some ⟨q, 0, none⟩)) : p = q := by
  injection h with h
  injection h with h
  injection h
theorem JD.s16 {x : Nat → Value} {w : World} (h : JD x w) (h0 : ∀ q, x 18 ≠ .pointer (some ⟨q, 0, none⟩)) (o : Obj) : JD (upd x 16 (.pointer (some ⟨w.heap.size, 0, none⟩))) (w.alloc o) := by
  have h6 : upd x 16 (.pointer (some ⟨w.heap.size, 0, none⟩)) 16 = .pointer (some ⟨w.heap.size, 0, none⟩) := by simp [upd]
  have h7 : upd x 16 (.pointer (some ⟨w.heap.size, 0, none⟩)) 17 = x 17 := by simp [upd]
  have h8 : upd x 16 (.pointer (some ⟨w.heap.size, 0, none⟩)) 18 = x 18 := by simp [upd]
  refine ⟨fun q hq => ?_, fun q hq => ?_, fun q hq hq' => ?_, fun q hq => ?_⟩
  · rw [h6] at hq; have := ptr_inj hq; simp; omega
  · rw [h7] at hq; have := h.b q hq; simp; omega
  · rw [h6] at hq; rw [h7] at hq'; have := ptr_inj hq; have := h.b q hq'; omega
  · rw [h8] at hq; exact absurd hq (h0 q)
theorem JD.s17 {x : Nat → Value} {w : World} (h : JD x w) (o : Obj) : JD (upd x 17 (.pointer (some ⟨w.heap.size, 0, none⟩))) (w.alloc o) := by
  have h6 : upd x 17 (.pointer (some ⟨w.heap.size, 0, none⟩)) 16 = x 16 := by simp [upd]
  have h7 : upd x 17 (.pointer (some ⟨w.heap.size, 0, none⟩)) 17 = .pointer (some ⟨w.heap.size, 0, none⟩) := by simp [upd]
  have h8 : upd x 17 (.pointer (some ⟨w.heap.size, 0, none⟩)) 18 = x 18 := by simp [upd]
  refine ⟨fun q hq => ?_, fun q hq => ?_, fun q hq hq' => ?_, fun q hq => ?_⟩
  · rw [h6] at hq; have := h.a q hq; simp; omega
  · rw [h7] at hq; have := ptr_inj hq; simp; omega
  · rw [h6] at hq; rw [h7] at hq'; have := ptr_inj hq'; have := h.a q hq; omega
  · rw [h8] at hq; rw [h6]; exact h.d q hq
theorem JD.s18 {x : Nat → Value} {w w' : World} (h : JD x w) (hs : w.heap.size ≤ w'.heap.size) {p : Nat} (hp : x 16 = .pointer (some ⟨p, 0, none⟩)) : JD (upd x 18 (.pointer (some ⟨p, 0, none⟩))) w' := by
  have h6 : upd x 18 (.pointer (some ⟨p, 0, none⟩)) 16 = x 16 := by simp [upd]
  have h7 : upd x 18 (.pointer (some ⟨p, 0, none⟩)) 17 = x 17 := by simp [upd]
  have h8 : upd x 18 (.pointer (some ⟨p, 0, none⟩)) 18 = .pointer (some ⟨p, 0, none⟩) := by simp [upd]
  refine ⟨fun q hq => ?_, fun q hq => ?_, fun q hq hq' => ?_, fun q hq => ?_⟩
  · rw [h6] at hq; have := h.a q hq; omega
  · rw [h7] at hq; have := h.b q hq; omega
  · rw [h6] at hq; rw [h7] at hq'; exact h.c q hq hq'
  · rw [h8] at hq; rw [h6, hp, hq]
set_option maxHeartbeats 8000000 in
theorem div_any (n k : Int) (s t : Nat) (ha : Rt n s) (hB : Rt k t) (w : World) : Calls Tryz.prog 26 #[.agg #[.int .i64 n, .int .i64 (s : Int)], .agg #[.int .i64 k, .int .i64 (t : Int)]] w fun e w' =>
    e = .returned (.tuple #[.agg #[.int .i64 (divF n s k t).1, .int .i64 (divF n s k t).2.1], .int .i64 (divF n s k t).2.2]) ∧ Below w.heap.size w w' := by
  have CA := Lib.hid (fun w => clean_right ha w)
  have CB := Lib.hid (fun w => clean_right hB w)
  have hs9 : s ≤ 9 := by have := ha.s9; omega
  have ht9 : t ≤ 9 := by have := hB.s9; omega
  go_enter Tryz.func26, Tryz.ntmps26
  go_wp2_with fail
  refine region_steps 4 [some 8, some 9, some 10, some 11] (by kernel_rfl) (by kernel_rfl) ?_
  -- 0: Op.load 23 (Operand.tmp 2)
  apply ls_val
  · intro x w' hb hpre K hK
    have hc := (bcell hb).1
    clear hpre
    simp only [frL, Act.put, List.setIfInBounds_toArray, List.set_cons_zero, List.set_cons_succ, Nat.zero_add, Nat.reduceAdd] at hK ⊢
    have HK := Lib.hid hK
    clear hK
    refine Held.mk ?_
    go_simp
    exact HK.out _ (Below.refl _ _)
  -- 1: Op.call { callee := Callee.value (Operand.func 47), args := #[Operand.tmp 8], argTypes := 
  apply ls_val
  · intro x w' hb hpre K hK
    have hc := (bcell hb).1
    simp [preds, Region.binds, phi, MP.val, MP.box, MP.row] at hpre
    simp only [frL, Act.put, List.setIfInBounds_toArray, List.set_cons_zero, List.set_cons_succ, Nat.zero_add, Nat.reduceAdd, hpre] at hK ⊢
    have HK := Lib.hid hK
    clear hK
    refine Held.mk ?_
    go_simp
    (with_reducible refine (CA.out _).mono ?_)
    rintro e w1 ⟨rfl, hb1⟩
    dsimp only
    exact HK.out _ hb1
  -- 2: Op.load 23 (Operand.tmp 3)
  apply ls_val
  · intro x w' hb hpre K hK
    have hc := (bcell hb).1
    clear hpre
    simp only [frL, Act.put, List.setIfInBounds_toArray, List.set_cons_zero, List.set_cons_succ, Nat.zero_add, Nat.reduceAdd] at hK ⊢
    have HK := Lib.hid hK
    clear hK
    refine Held.mk ?_
    go_simp
    exact HK.out _ (Below.refl _ _)
  -- 3: Op.call { callee := Callee.value (Operand.func 47), args := #[Operand.tmp 10], argTypes :=
  apply ls_val
  · intro x w' hb hpre K hK
    have hc := (bcell hb).1
    simp [preds, Region.binds, phi, MP.val, MP.box, MP.row] at hpre
    simp only [frL, Act.put, List.setIfInBounds_toArray, List.set_cons_zero, List.set_cons_succ, Nat.zero_add, Nat.reduceAdd, hpre] at hK ⊢
    have HK := Lib.hid hK
    clear hK
    refine Held.mk ?_
    go_simp
    (with_reducible refine (CB.out _).mono ?_)
    rintro e w1 ⟨rfl, hb1⟩
    dsimp only
    exact HK.out _ hb1
  intro x w' hb hp
  simp only [List.cons_append, List.nil_append, phis, MP.val, MP.box, MP.row, frL, Act.put, List.setIfInBounds_toArray, List.set_cons_zero, List.set_cons_succ, Nat.zero_add, Nat.reduceAdd] at hp ⊢
  obtain ⟨h0, h1, h2, h3, -⟩ := hp
  simp only [h0, h1, h2, h3]
  clear h0 h1 h2 h3
  have E0 : Blk w' w.heap.size #[.int .i64 n, .int .i64 (s : Int)] 23 := (Blk.alloc (Blk.alloc (Blk.here rfl rfl) _) _).below hb (by simp; omega)
  have E1 : Blk w' (w.heap.size + 1) #[.int .i64 k, .int .i64 (t : Int)] 23 := (Blk.alloc (Blk.here rfl (by simp)) _).below hb (by simp)
  have E2 : Blk w' (w.heap.size + 1 + 1) #[.int .i64 0, .int .i64 0] 23 := (Blk.here rfl (by simp)).below hb (by simp)
  have hw : Below w.heap.size w w' := Below.trans (by go_grown) (hb.mono (by simp; omega))
  clear hb CA CB
  obtain ⟨c00, c01, f00, f01⟩ := E0.two
  obtain ⟨c10, c11, f10, f11⟩ := E1.two
  obtain ⟨c20, c21, f20, f21⟩ := E2.two
  cases ez : (k == 0)
  · have hk : k ≠ 0 := by simpa using ez
    obtain ⟨d1, hd1⟩ : ∃ d, d = 9 + t - s := ⟨_, rfl⟩
    obtain ⟨m1, hm1⟩ : ∃ m, m = n.natAbs * powN d1 := ⟨_, rfl⟩
    obtain ⟨m2, hm2⟩ : ∃ m, m = k.natAbs * powN 0 := ⟨_, rfl⟩
    obtain ⟨b1, hb1⟩ : ∃ b, b = decide (n < 0) := ⟨_, rfl⟩
    obtain ⟨b2, hb2⟩ : ∃ b, b = decide (k < 0) := ⟨_, rfl⟩
    have hlo := ha.lo; have hhi := ha.hi; have klo := hB.lo; have khi := hB.hi
    have z1 : m2 = k.natAbs := by rw [hm2, powN_zero, Nat.mul_one]
    have z2 : m1 ≤ 999999999999999999 * 1000000000000000000 := by
      rw [hm1]
      have h3 := powN_le (show d1 ≤ 18 by omega)
      rw [powN_18] at h3
      exact Nat.mul_le_mul (by omega) h3
    have WA := Lib.hid (fun w => widen_any n d1 (by omega) (by omega) (by omega) w)
    have WB := Lib.hid (fun w => widen_any k 0 (by omega) (by omega) (by omega) w)
    rw [← hb1, ← hm1] at WA
    rw [← hb2, ← hm2] at WB
    simp only [Int.natCast_zero] at WB
    have WO := Lib.hid (fun w => over_any b1 b2 m1 m2 (by omega) (by omega) (by omega) w)
    have hdiv : divF n s k t = fitW (b1 != b2) (m1 / m2) 9 := by
      unfold divF
      rw [ez, fitW_Z, tdiv_sgn _ _ _ _ (by omega), hm1, hb1, hm2, hb2, powN_zero, Nat.mul_one, sgn_Z, sgn_mul, sgn_Z, powN_cast, hd1]
      simp only [Bool.false_eq_true, if_false]
      congr 4
      omega
    have WF := Lib.hid (fun w => fit_any (b1 != b2) (m1 / m2) 9 (by have := Nat.div_le_self m1 m2; omega) (by omega) w)
    obtain ⟨b3, hb3⟩ : ∃ b, b = (b1 != b2) := ⟨_, rfl⟩
    obtain ⟨m3, hm3⟩ : ∃ m, m = m1 / m2 := ⟨_, rfl⟩
    obtain ⟨m4, hm4⟩ : ∃ m, m = m1 % m2 := ⟨_, rfl⟩
    obtain ⟨r, hr⟩ : ∃ r, r = fitW b3 m3 9 := ⟨_, rfl⟩
    rw [← hb3, ← hm3, ← hm4] at WO
    rw [← hb3, ← hm3, ← hr] at WF
    rw [← hb3, ← hm3, ← hr] at hdiv
    obtain ⟨r1, r2, r3⟩ := r
    have HDIV := Lib.hid hdiv
    have g1 : IntKind.i64.wrap (9 + (t : Int)) = 9 + (t : Int) := IntWalk.i64_in _ (by omega)
    have g2 : IntKind.i64.wrap (9 + (t : Int) - (s : Int)) = (d1 : Int) := by rw [IntKind.wrap_i64]; omega
    have g3 : 9 + (t : Int) - (s : Int) = (d1 : Int) := by omega
    have g4 : IntKind.i64.wrap (d1 : Int) = (d1 : Int) := IntWalk.i64_in _ (by omega)
    clear hdiv hr hb3 hm3 hm4 hb1 hb2 hm1 hm2 z1 z2 hd1
    go_upto_region 4 with fail
    refine wp_worldT ?_
    intro w2 hw2
    have F0 : Blk w2 w.heap.size #[.int .i64 n, .int .i64 (s : Int)] 23 := by rw [hw2]; exact (((E0.set 0 _).set 1 _).other (by simp) _).other (by simp) _
    have F1 : Blk w2 (w.heap.size + 1) #[.int .i64 k, .int .i64 (t : Int)] 23 := by rw [hw2]; exact (((E1.other (by simp) _).other (by simp) _).set 0 _).set 1 _
    have F2 : Blk w2 (w.heap.size + 1 + 1) #[.int .i64 0, .int .i64 0] 23 := by rw [hw2]; exact (((E2.other (by simp; try omega) _).other (by simp; try omega) _).other (by simp; try omega) _).other (by simp; try omega) _
    have hv : Below w.heap.size w w2 := by rw [hw2]; exact (((hw.setCell (by simp) _).setCell (by simp) _).setCell (by simp) _).setCell (by simp) _
    clear hw2 c00 c01 c10 c11 c20 c21 f00 f01 f10 f11 f20 f21 E0 E1 E2 hw w' x
    obtain ⟨c00, c01, -, -⟩ := F0.two
    obtain ⟨c10, c11, -, -⟩ := F1.two
    have l0 : w.heap.size < w2.heap.size := F0.lt
    have l1 : w.heap.size + 1 < w2.heap.size := F1.lt
    obtain ⟨A, hA⟩ : ∃ A : Array Value, A = #[.bool b3, .int .u64 ((hiN m3 : Nat) : Int), .int .u64 ((loN m3 : Nat) : Int)] := ⟨_, rfl⟩
    have HA := Lib.hid hA
    clear hA
    refine RC.region_steps (R := RD w2.heap.size 55 A) 19 [some 17, some 18, some 19, some 20, some 21, some 22, some 23, some 24, some 25, some 26, some 27, some 28, some 29, some 16, some 30, some 31, some 6, some 7, none] JD RD.trans RD.drew (fun w9 => ⟨fun q hq => by simp [orig, undef] at hq, fun q hq => by simp [orig, undef] at hq, fun q hq => by simp [orig, undef] at hq, fun q hq => by simp [orig, undef] at hq⟩) (by kernel_rfl) (by kernel_rfl) ?_
    -- 0: Op.fieldAddr 23 (Operand.tmp 2) 0
    apply RC.ls_val (JD.step (by decide))
    · intro x w' hb hpre K hK
      have z00 := (hb.bl.cell (p := ⟨w.heap.size, 0, none⟩) l0).trans c00
      have z01 := (hb.bl.cell (p := ⟨w.heap.size, 1, none⟩) l0).trans c01
      have z10 := (hb.bl.cell (p := ⟨w.heap.size + 1, 0, none⟩) l1).trans c10
      have z11 := (hb.bl.cell (p := ⟨w.heap.size + 1, 1, none⟩) l1).trans c11
      clear hpre
      simp only [frL, Act.put, List.setIfInBounds_toArray, List.set_cons_zero, List.set_cons_succ, Nat.zero_add, Nat.reduceAdd] at hK ⊢
      have HK := Lib.hid hK
      clear hK
      refine Held.mk ?_
      go_simp
      exact HK.out _ (RD.refl _)
    -- 1: Op.load 3 (Operand.tmp 17)
    apply RC.ls_val (JD.step (by decide))
    · intro x w' hb hpre K hK
      have z00 := (hb.bl.cell (p := ⟨w.heap.size, 0, none⟩) l0).trans c00
      have z01 := (hb.bl.cell (p := ⟨w.heap.size, 1, none⟩) l0).trans c01
      have z10 := (hb.bl.cell (p := ⟨w.heap.size + 1, 0, none⟩) l1).trans c10
      have z11 := (hb.bl.cell (p := ⟨w.heap.size + 1, 1, none⟩) l1).trans c11
      simp [preds, Region.binds, RC.phi, RC.MP.val] at hpre
      simp only [frL, Act.put, List.setIfInBounds_toArray, List.set_cons_zero, List.set_cons_succ, Nat.zero_add, Nat.reduceAdd, hpre] at hK ⊢
      have HK := Lib.hid hK
      clear hK
      refine Held.mk ?_
      go_simp
      exact HK.out _ (RD.refl _)
    -- 2: Op.fieldAddr 23 (Operand.tmp 3) 1
    apply RC.ls_val (JD.step (by decide))
    · intro x w' hb hpre K hK
      have z00 := (hb.bl.cell (p := ⟨w.heap.size, 0, none⟩) l0).trans c00
      have z01 := (hb.bl.cell (p := ⟨w.heap.size, 1, none⟩) l0).trans c01
      have z10 := (hb.bl.cell (p := ⟨w.heap.size + 1, 0, none⟩) l1).trans c10
      have z11 := (hb.bl.cell (p := ⟨w.heap.size + 1, 1, none⟩) l1).trans c11
      clear hpre
      simp only [frL, Act.put, List.setIfInBounds_toArray, List.set_cons_zero, List.set_cons_succ, Nat.zero_add, Nat.reduceAdd] at hK ⊢
      have HK := Lib.hid hK
      clear hK
      refine Held.mk ?_
      go_simp
      exact HK.out _ (RD.refl _)
    -- 3: Op.load 3 (Operand.tmp 19)
    apply RC.ls_val (JD.step (by decide))
    · intro x w' hb hpre K hK
      have z00 := (hb.bl.cell (p := ⟨w.heap.size, 0, none⟩) l0).trans c00
      have z01 := (hb.bl.cell (p := ⟨w.heap.size, 1, none⟩) l0).trans c01
      have z10 := (hb.bl.cell (p := ⟨w.heap.size + 1, 0, none⟩) l1).trans c10
      have z11 := (hb.bl.cell (p := ⟨w.heap.size + 1, 1, none⟩) l1).trans c11
      simp [preds, Region.binds, RC.phi, RC.MP.val] at hpre
      simp only [frL, Act.put, List.setIfInBounds_toArray, List.set_cons_zero, List.set_cons_succ, Nat.zero_add, Nat.reduceAdd, hpre] at hK ⊢
      have HK := Lib.hid hK
      clear hK
      refine Held.mk ?_
      go_simp
      exact HK.out _ (RD.refl _)
    -- 4: Op.binOp BinOp.add 3 (Operand.const (Value.int IntKind.i64 9)) (Operand.tmp 20) 
    apply RC.ls_val (JD.step (by decide))
    · intro x w' hb hpre K hK
      have z00 := (hb.bl.cell (p := ⟨w.heap.size, 0, none⟩) l0).trans c00
      have z01 := (hb.bl.cell (p := ⟨w.heap.size, 1, none⟩) l0).trans c01
      have z10 := (hb.bl.cell (p := ⟨w.heap.size + 1, 0, none⟩) l1).trans c10
      have z11 := (hb.bl.cell (p := ⟨w.heap.size + 1, 1, none⟩) l1).trans c11
      simp [preds, Region.binds, RC.phi, RC.MP.val] at hpre
      simp only [frL, Act.put, List.setIfInBounds_toArray, List.set_cons_zero, List.set_cons_succ, Nat.zero_add, Nat.reduceAdd, hpre] at hK ⊢
      have HK := Lib.hid hK
      clear hK
      refine Held.mk ?_
      go_simp
      exact HK.out _ (RD.refl _)
    -- 5: Op.fieldAddr 23 (Operand.tmp 2) 1
    apply RC.ls_val (JD.step (by decide))
    · intro x w' hb hpre K hK
      have z00 := (hb.bl.cell (p := ⟨w.heap.size, 0, none⟩) l0).trans c00
      have z01 := (hb.bl.cell (p := ⟨w.heap.size, 1, none⟩) l0).trans c01
      have z10 := (hb.bl.cell (p := ⟨w.heap.size + 1, 0, none⟩) l1).trans c10
      have z11 := (hb.bl.cell (p := ⟨w.heap.size + 1, 1, none⟩) l1).trans c11
      clear hpre
      simp only [frL, Act.put, List.setIfInBounds_toArray, List.set_cons_zero, List.set_cons_succ, Nat.zero_add, Nat.reduceAdd] at hK ⊢
      have HK := Lib.hid hK
      clear hK
      refine Held.mk ?_
      go_simp
      exact HK.out _ (RD.refl _)
    -- 6: Op.load 3 (Operand.tmp 22)
    apply RC.ls_val (JD.step (by decide))
    · intro x w' hb hpre K hK
      have z00 := (hb.bl.cell (p := ⟨w.heap.size, 0, none⟩) l0).trans c00
      have z01 := (hb.bl.cell (p := ⟨w.heap.size, 1, none⟩) l0).trans c01
      have z10 := (hb.bl.cell (p := ⟨w.heap.size + 1, 0, none⟩) l1).trans c10
      have z11 := (hb.bl.cell (p := ⟨w.heap.size + 1, 1, none⟩) l1).trans c11
      simp [preds, Region.binds, RC.phi, RC.MP.val] at hpre
      simp only [frL, Act.put, List.setIfInBounds_toArray, List.set_cons_zero, List.set_cons_succ, Nat.zero_add, Nat.reduceAdd, hpre] at hK ⊢
      have HK := Lib.hid hK
      clear hK
      refine Held.mk ?_
      go_simp
      exact HK.out _ (RD.refl _)
    -- 7: Op.binOp BinOp.sub 3 (Operand.tmp 21) (Operand.tmp 23) 3
    apply RC.ls_val (JD.step (by decide))
    · intro x w' hb hpre K hK
      have z00 := (hb.bl.cell (p := ⟨w.heap.size, 0, none⟩) l0).trans c00
      have z01 := (hb.bl.cell (p := ⟨w.heap.size, 1, none⟩) l0).trans c01
      have z10 := (hb.bl.cell (p := ⟨w.heap.size + 1, 0, none⟩) l1).trans c10
      have z11 := (hb.bl.cell (p := ⟨w.heap.size + 1, 1, none⟩) l1).trans c11
      simp [preds, Region.binds, RC.phi, RC.MP.val] at hpre
      simp only [frL, Act.put, List.setIfInBounds_toArray, List.set_cons_zero, List.set_cons_succ, Nat.zero_add, Nat.reduceAdd, hpre] at hK ⊢
      have HK := Lib.hid hK
      clear hK
      refine Held.mk ?_
      go_simp
      exact HK.out _ (RD.refl _)
    -- 8: Op.call { callee := Callee.value (Operand.func 36), args := #[Operand.tmp 18, Op
    apply RC.ls_val (JD.step (by decide))
    · intro x w' hb hpre K hK
      have z00 := (hb.bl.cell (p := ⟨w.heap.size, 0, none⟩) l0).trans c00
      have z01 := (hb.bl.cell (p := ⟨w.heap.size, 1, none⟩) l0).trans c01
      have z10 := (hb.bl.cell (p := ⟨w.heap.size + 1, 0, none⟩) l1).trans c10
      have z11 := (hb.bl.cell (p := ⟨w.heap.size + 1, 1, none⟩) l1).trans c11
      simp [preds, Region.binds, RC.phi, RC.MP.val] at hpre
      simp only [frL, Act.put, List.setIfInBounds_toArray, List.set_cons_zero, List.set_cons_succ, Nat.zero_add, Nat.reduceAdd, hpre] at hK ⊢
      have HK := Lib.hid hK
      clear hK
      refine Held.mk ?_
      go_simp
      (with_reducible refine (WA.out _).mono ?_)
      rintro e w1 ⟨rfl, hb1⟩
      dsimp only
      exact HK.out _ (RD.ofBelow hb1 hb.bl.size)
    -- 9: Op.fieldAddr 23 (Operand.tmp 3) 0
    apply RC.ls_val (JD.step (by decide))
    · intro x w' hb hpre K hK
      have z00 := (hb.bl.cell (p := ⟨w.heap.size, 0, none⟩) l0).trans c00
      have z01 := (hb.bl.cell (p := ⟨w.heap.size, 1, none⟩) l0).trans c01
      have z10 := (hb.bl.cell (p := ⟨w.heap.size + 1, 0, none⟩) l1).trans c10
      have z11 := (hb.bl.cell (p := ⟨w.heap.size + 1, 1, none⟩) l1).trans c11
      clear hpre
      simp only [frL, Act.put, List.setIfInBounds_toArray, List.set_cons_zero, List.set_cons_succ, Nat.zero_add, Nat.reduceAdd] at hK ⊢
      have HK := Lib.hid hK
      clear hK
      refine Held.mk ?_
      go_simp
      exact HK.out _ (RD.refl _)
    -- 10: Op.load 3 (Operand.tmp 26)
    apply RC.ls_val (JD.step (by decide))
    · intro x w' hb hpre K hK
      have z00 := (hb.bl.cell (p := ⟨w.heap.size, 0, none⟩) l0).trans c00
      have z01 := (hb.bl.cell (p := ⟨w.heap.size, 1, none⟩) l0).trans c01
      have z10 := (hb.bl.cell (p := ⟨w.heap.size + 1, 0, none⟩) l1).trans c10
      have z11 := (hb.bl.cell (p := ⟨w.heap.size + 1, 1, none⟩) l1).trans c11
      simp [preds, Region.binds, RC.phi, RC.MP.val] at hpre
      simp only [frL, Act.put, List.setIfInBounds_toArray, List.set_cons_zero, List.set_cons_succ, Nat.zero_add, Nat.reduceAdd, hpre] at hK ⊢
      have HK := Lib.hid hK
      clear hK
      refine Held.mk ?_
      go_simp
      exact HK.out _ (RD.refl _)
    -- 11: Op.call { callee := Callee.value (Operand.func 36), args := #[Operand.tmp 27, Op
    apply RC.ls_val (JD.step (by decide))
    · intro x w' hb hpre K hK
      have z00 := (hb.bl.cell (p := ⟨w.heap.size, 0, none⟩) l0).trans c00
      have z01 := (hb.bl.cell (p := ⟨w.heap.size, 1, none⟩) l0).trans c01
      have z10 := (hb.bl.cell (p := ⟨w.heap.size + 1, 0, none⟩) l1).trans c10
      have z11 := (hb.bl.cell (p := ⟨w.heap.size + 1, 1, none⟩) l1).trans c11
      simp [preds, Region.binds, RC.phi, RC.MP.val] at hpre
      simp only [frL, Act.put, List.setIfInBounds_toArray, List.set_cons_zero, List.set_cons_succ, Nat.zero_add, Nat.reduceAdd, hpre] at hK ⊢
      have HK := Lib.hid hK
      clear hK
      refine Held.mk ?_
      go_simp
      (with_reducible refine (WB.out _).mono ?_)
      rintro e w1 ⟨rfl, hb1⟩
      dsimp only
      exact HK.out _ (RD.ofBelow hb1 hb.bl.size)
    -- 12: Op.call { callee := Callee.value (Operand.func 49), args := #[Operand.tmp 25, Op
    apply RC.ls_val (JD.step (by decide))
    · intro x w' hb hpre K hK
      have z00 := (hb.bl.cell (p := ⟨w.heap.size, 0, none⟩) l0).trans c00
      have z01 := (hb.bl.cell (p := ⟨w.heap.size, 1, none⟩) l0).trans c01
      have z10 := (hb.bl.cell (p := ⟨w.heap.size + 1, 0, none⟩) l1).trans c10
      have z11 := (hb.bl.cell (p := ⟨w.heap.size + 1, 1, none⟩) l1).trans c11
      simp [preds, Region.binds, RC.phi, RC.MP.val] at hpre
      simp only [frL, Act.put, List.setIfInBounds_toArray, List.set_cons_zero, List.set_cons_succ, Nat.zero_add, Nat.reduceAdd, hpre] at hK ⊢
      have HK := Lib.hid hK
      clear hK
      refine Held.mk ?_
      go_simp
      (with_reducible refine (WO.out _).mono ?_)
      rintro e w1 ⟨rfl, hb1⟩
      dsimp only
      exact HK.out _ (RD.ofBelow hb1 hb.bl.size)
    -- 13: Op.move (Operand.tmp 29)
    apply RC.ls_val (JD.step (by decide))
    · intro x w' hb hpre K hK
      have z00 := (hb.bl.cell (p := ⟨w.heap.size, 0, none⟩) l0).trans c00
      have z01 := (hb.bl.cell (p := ⟨w.heap.size, 1, none⟩) l0).trans c01
      have z10 := (hb.bl.cell (p := ⟨w.heap.size + 1, 0, none⟩) l1).trans c10
      have z11 := (hb.bl.cell (p := ⟨w.heap.size + 1, 1, none⟩) l1).trans c11
      simp [preds, Region.binds, RC.phi, RC.MP.val] at hpre
      simp only [frL, Act.put, List.setIfInBounds_toArray, List.set_cons_zero, List.set_cons_succ, Nat.zero_add, Nat.reduceAdd, hpre] at hK ⊢
      have HK := Lib.hid hK
      clear hK
      refine Held.mk ?_
      go_simp
      exact HK.out _ (RD.refl _)
    -- 14: Op.extract (Operand.tmp 16) 0
    apply RC.ls_val (JD.step (by decide))
    · intro x w' hb hpre K hK
      have z00 := (hb.bl.cell (p := ⟨w.heap.size, 0, none⟩) l0).trans c00
      have z01 := (hb.bl.cell (p := ⟨w.heap.size, 1, none⟩) l0).trans c01
      have z10 := (hb.bl.cell (p := ⟨w.heap.size + 1, 0, none⟩) l1).trans c10
      have z11 := (hb.bl.cell (p := ⟨w.heap.size + 1, 1, none⟩) l1).trans c11
      simp [preds, Region.binds, RC.phi, RC.MP.val] at hpre
      simp only [frL, Act.put, List.setIfInBounds_toArray, List.set_cons_zero, List.set_cons_succ, Nat.zero_add, Nat.reduceAdd, hpre] at hK ⊢
      have HK := Lib.hid hK
      clear hK
      refine Held.mk ?_
      go_simp
      exact HK.out _ (RD.refl _)
    -- 15: Op.extract (Operand.tmp 16) 1
    apply RC.ls_val (JD.step (by decide))
    · intro x w' hb hpre K hK
      have z00 := (hb.bl.cell (p := ⟨w.heap.size, 0, none⟩) l0).trans c00
      have z01 := (hb.bl.cell (p := ⟨w.heap.size, 1, none⟩) l0).trans c01
      have z10 := (hb.bl.cell (p := ⟨w.heap.size + 1, 0, none⟩) l1).trans c10
      have z11 := (hb.bl.cell (p := ⟨w.heap.size + 1, 1, none⟩) l1).trans c11
      simp [preds, Region.binds, RC.phi, RC.MP.val] at hpre
      simp only [frL, Act.put, List.setIfInBounds_toArray, List.set_cons_zero, List.set_cons_succ, Nat.zero_add, Nat.reduceAdd, hpre] at hK ⊢
      have HK := Lib.hid hK
      clear hK
      refine Held.mk ?_
      go_simp
      exact HK.out _ (RD.refl _)
    -- 16: Op.alloc 55
    refine RC.ls_genO MPbox ?_ ?_
    · intro x w' hb hj hpre ho K hK
      have ho18 : ∀ q, x 18 ≠ .pointer (some ⟨q, 0, none⟩) := fun q hq => by rw [ho 18 (by omega) (by kernel_rfl)] at hq; simp [orig, undef] at hq
      clear ho
      have z00 := (hb.bl.cell (p := ⟨w.heap.size, 0, none⟩) l0).trans c00
      have z01 := (hb.bl.cell (p := ⟨w.heap.size, 1, none⟩) l0).trans c01
      have z10 := (hb.bl.cell (p := ⟨w.heap.size + 1, 0, none⟩) l1).trans c10
      have z11 := (hb.bl.cell (p := ⟨w.heap.size + 1, 1, none⟩) l1).trans c11
      clear hpre
      simp only [frL, Act.put, List.setIfInBounds_toArray, List.set_cons_zero, List.set_cons_succ, Nat.zero_add, Nat.reduceAdd] at hK ⊢
      have HK := Lib.hid hK
      clear hK
      refine Held.mk ?_
      go_simp
      exact HK.out _ _ ⟨_, _, _, _, rfl, hb.bl.size, Blk.new _ _ _⟩ (hj.s16 ho18 _) (RD.ofBelow ((Below.refl _ _).alloc (Nat.le_refl _) _) hb.bl.size)
    -- 17: Op.alloc 55
    refine RC.ls_gen MPbox ?_ ?_
    · intro x w' hb hj hpre K hK
      have z00 := (hb.bl.cell (p := ⟨w.heap.size, 0, none⟩) l0).trans c00
      have z01 := (hb.bl.cell (p := ⟨w.heap.size, 1, none⟩) l0).trans c01
      have z10 := (hb.bl.cell (p := ⟨w.heap.size + 1, 0, none⟩) l1).trans c10
      have z11 := (hb.bl.cell (p := ⟨w.heap.size + 1, 1, none⟩) l1).trans c11
      clear hpre
      simp only [frL, Act.put, List.setIfInBounds_toArray, List.set_cons_zero, List.set_cons_succ, Nat.zero_add, Nat.reduceAdd] at hK ⊢
      have HK := Lib.hid hK
      clear hK
      refine Held.mk ?_
      go_simp
      exact HK.out _ _ ⟨_, _, _, _, rfl, hb.bl.size, Blk.new _ _ _⟩ (hj.s17 _) (RD.ofBelow ((Below.refl _ _).alloc (Nat.le_refl _) _) hb.bl.size)
    -- 18: Op.store 55 (Operand.tmp 6) (Operand.tmp 30)
    refine RC.ls_gen MPfin ?_ ?_
    · intro x w' hb hj hpre K hK
      have p0 := hpre.1 rfl
      have p1 := hpre.2.1 rfl
      clear hpre
      simp [RC.phi, MPbox] at p0
      simp [RC.phi, RC.MP.val] at p1
      obtain ⟨q, hq, hBq, y1, y2, y3, hy⟩ := p0
      obtain ⟨d0, d1', d2', e0, e1, e2⟩ := hy.three
      have hp := RD.put (B := w2.heap.size) HA.out hy hBq
      simp only [frL, Act.put, List.setIfInBounds_toArray, List.set_cons_zero, List.set_cons_succ, Nat.zero_add, Nat.reduceAdd, hq, p1] at hK ⊢
      have HK := Lib.hid hK
      clear hK
      refine Held.mk ?_
      go_simp
      exact HK.out (.pointer (some ⟨q, 0, none⟩)) _ ⟨q, rfl, hBq, hp.2⟩ (hj.s18 hp.1.bl.size hq) hp.1
    intro x w' hb hp hJ
    simp only [List.cons_append, List.nil_append, RC.phis, RC.MP.val, frL, Act.put, List.setIfInBounds_toArray, List.set_cons_zero, List.set_cons_succ, Nat.zero_add, Nat.reduceAdd] at hp ⊢
    obtain ⟨h0, h1, h2, h3, h4, h5, h6, h7, h8, h9, h10, h11, h12, h13, h14, h15, h16, h17, h18, -⟩ := hp
    simp only [h0, h1, h2, h3, h4, h5, h6, h7, h8, h9, h10, h11, h12, h13, h14, h15]
    clear h0 h1 h2 h3 h4 h5 h6 h7 h8 h9 h10 h11 h12 h13 h14 h15
    clear WA WB WO
    obtain ⟨q, hq, hBq, hBl⟩ : ∃ q, x 18 = .pointer (some ⟨q, 0, none⟩) ∧ w2.heap.size ≤ q ∧ Blk w' q A 55 := h18
    have hq6 := hJ.d q hq
    obtain ⟨q7, y1, y2, y3, hq7, hBq7, hy⟩ : ∃ q a b c, x 17 = .pointer (some ⟨q, 0, none⟩) ∧ w2.heap.size ≤ q ∧ Blk w' q #[a, b, c] 55 := h17
    have hne : q ≠ q7 := fun e => hJ.c q hq6 (by rw [e]; exact hq7)
    rw [HA.out] at hBl
    have G2 : Blk w' (w.heap.size + 1 + 1) #[.int .i64 0, .int .i64 0] 23 := F2.below hb.bl F2.lt
    have hu : Below w.heap.size w w' := hv.trans (hb.bl.mono hv.size)
    have l2 : w.heap.size + 1 + 1 < w2.heap.size := F2.lt
    simp only [hq6, hq7]
    clear h16 hJ hq hq6 hq7 hb c00 c01 c10 c11 F0 F1 F2 hv HA g1 g2 g3 g4
    obtain ⟨c20, c21, f20, f21⟩ := G2.two
    obtain ⟨d0, d1', d2, e0, e1, e2⟩ := hBl.three
    obtain ⟨p0, p1, p2, r0', r1', r2'⟩ := hy.three
    have n1 : w.heap.size + 1 + 1 ≠ q7 := by omega
    have n2 : q7 ≠ w.heap.size + 1 + 1 := by omega
    have n3 : q7 ≠ q := fun e => hne e.symm
    go_wp2_with (go_at_call 35; refine (WF.out _).mono ?_; rintro e w3 ⟨rfl, hb⟩
                 have H2 := (((G2.other n1 _).other n1 _).other n1 _).below hb (by have := G2.lt; simpa using this)
                 have hw3 : Below w.heap.size w w3 := (((hu.setCell (by simp; omega) _).setCell (by simp; omega) _).setCell (by simp; omega) _).trans (hb.mono (by have := hu.size; simpa using this))
                 obtain ⟨c30, c31, f30, f31⟩ := H2.two
                 clear hb)
    refine bodyPost_ret (v := .tuple #[.agg #[.int .i64 r1, .int .i64 r2], .int .i64 r3]) (by simp [results, Tryz.results26, go_sem, c30, c31]) rfl ⟨by rw [HDIV.out], ?_⟩
    go_grown
    all_goals first | exact hw3 | exact hw3.size
  · have hdiv : divF n s k t = (0, 0, 52) := by unfold divF; rw [ez]; rfl
    have ek : k = 0 := by simpa using ez
    have HDIV := Lib.hid hdiv
    clear hdiv
    subst ek
    go_wp2_with fail
    refine bodyPost_ret (v := .tuple #[.agg #[.int .i64 0, .int .i64 0], .int .i64 52]) (by simp [results, Tryz.results26, go_sem, c20, c21]) rfl ⟨by rw [HDIV.out], ?_⟩
    go_grown
    all_goals first | exact hw | exact hw.size
end Go.Proofs.YtgbghbeolndfiaaGreatDoor
