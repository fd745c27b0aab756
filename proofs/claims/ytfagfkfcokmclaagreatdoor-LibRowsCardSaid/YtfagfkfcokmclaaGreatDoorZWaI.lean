/- Sums, differences, the order. -/
import Derived.Test.YtfagfkfcokmclaaGreatDoorZWaH
import Derived.Test.YtfagfkfcokmclaaGreatDoorZMgA
set_option linter.unusedSimpArgs false
set_option linter.unusedVariables false
namespace Go.Proofs.YtfagfkfcokmclaaGreatDoor
open Go.RowKit

theorem powN_cast (d : Nat) : ((powN d : Nat) : Int) = 10 ^ d := pow_cast d
theorem sgn_lvl (n : Int) (s t : Nat) : sgn (decide (n < 0)) (n.natAbs * powN (max s t - s)) = lvl n s t := by
  rw [sgn_mul, sgn_Z, powN_cast]
  unfold lvl
  congr 2
  omega
theorem lvl_bound {n s : Int} (h : Rt n s) (d : Nat) (hd : d ≤ 9) : n.natAbs * powN d ≤ 999999999999999999000000000 := by
  have h1 := h.lo
  have h2 := h.hi
  have h3 := powN_le hd
  have h9 : powN 9 = 1000000000 := by decide
  have := Nat.mul_le_mul (show n.natAbs ≤ 999999999999999999 by omega) (show powN d ≤ 1000000000 by omega)
  omega
theorem sgn_not (b : Bool) (m : Nat) : sgn (!b) m = - sgn b m := by cases b <;> simp [sgn]
/-- What Add, Sub and Cmp begin with. -/
structure Lv (n k : Int) (s t : Nat) (b1 b2 : Bool) (m1 m2 M : Nat) : Prop where
  call : ∀ w, Calls Tryz.prog 132 #[.agg #[.int .i64 n, .int .i64 (s : Int)], .agg #[.int .i64 k, .int .i64 (t : Int)]] w fun e w' =>
      e = .returned (.tuple #[.agg #[.bool b1, .int .u64 ((hiN m1 : Nat) : Int), .int .u64 ((loN m1 : Nat) : Int)], .agg #[.bool b2, .int .u64 ((hiN m2 : Nat) : Int), .int .u64 ((loN m2 : Nat) : Int)], .int .i64 (M : Int)]) ∧ Below w.heap.size w w'
  x : sgn b1 m1 = lvl n s t
  y : sgn b2 m2 = lvl k t s
  bx : m1 ≤ 999999999999999999000000000
  bz : m2 ≤ 999999999999999999000000000
  m9 : M ≤ 9
  mM : M = max s t
theorem level_ex (n k : Int) (s t : Nat) (ha : Rt n s) (hB : Rt k t) : ∃ b1 b2 m1 m2 M, Lv n k s t b1 b2 m1 m2 M := by
  have h1 := ha.s9
  have h2 := hB.s9
  refine ⟨_, _, _, _, _, ⟨level_any n k s t ha hB, sgn_lvl n s t, ?_, lvl_bound ha _ (by omega), lvl_bound hB _ (by omega), by omega, rfl⟩⟩
  have := sgn_lvl k t s
  rwa [Nat.max_comm t s] at this

set_option maxHeartbeats 1000000 in
theorem add_any (n k : Int) (s t : Nat) (ha : Rt n s) (hB : Rt k t) (w : World) : Calls Tryz.prog 76 #[.agg #[.int .i64 n, .int .i64 (s : Int)], .agg #[.int .i64 k, .int .i64 (t : Int)]] w fun e w' =>
    e = .returned (.tuple #[.agg #[.int .i64 (addF n s k t).1, .int .i64 (addF n s k t).2.1], .int .i64 (addF n s k t).2.2]) ∧ Below w.heap.size w w' := by
  obtain ⟨b1, b2, m1, m2, M, L⟩ := level_ex n k s t ha hB
  have hbx := L.bx
  have hbz := L.bz
  have hm9 := L.m9
  have CL := Lib.hid L.call
  have CP := Lib.hid (fun w => plus_any b1 b2 m1 m2 (by omega) w)
  have hps := plusF_sgn b1 m1 b2 m2
  have hfit : addF n s k t = fitW (plusF b1 m1 b2 m2).1 (plusF b1 m1 b2 m2).2 M := by
    rw [fitW_Z, L.mM]
    unfold addF
    congr 1
    · rw [(plusF_sgn b1 m1 b2 m2).1, L.x, L.y]
    · omega
  rw [hfit]
  obtain ⟨b3, hb3⟩ : ∃ b, b = (plusF b1 m1 b2 m2).1 := ⟨_, rfl⟩
  obtain ⟨m3, hm3⟩ : ∃ m, m = (plusF b1 m1 b2 m2).2 := ⟨_, rfl⟩
  have CF := Lib.hid (fun w => fit_any b3 m3 M (by rw [hm3]; omega) (by omega) w)
  rw [← hb3, ← hm3] at CP ⊢
  obtain ⟨r, hr⟩ : ∃ r, r = fitW b3 m3 M := ⟨_, rfl⟩
  rw [← hr] at CF ⊢
  obtain ⟨r1, r2, r3⟩ := r
  clear hr hb3 hm3 hfit hps hbx hbz hm9 L
  go_enter Tryz.func76, Tryz.ntmps76
  go_wp2_with (first
    | (go_at_call 132; with_reducible refine (CL.out _).mono ?_; rintro e w1 ⟨rfl, hb⟩
       have E2 : Blk w1 (w.heap.size + 1 + 1) #[.int .i64 0, .int .i64 0] 106 := (Blk.here rfl (by simp)).below hb (by simp)
       have hw1 : Below w.heap.size w w1 := Below.trans (by go_grown) (hb.mono (by simp; omega))
       clear hb)
    | (go_at_call 133; with_reducible refine (CP.out _).mono ?_; rintro e w2 ⟨rfl, hb⟩
       have F2 := ((E2.alloc _).alloc _).below hb (by have := E2.lt; simp; omega)
       have hw2 : Below w.heap.size w w2 := Below.trans ((hw1.alloc hw1.size _).alloc (by have := hw1.size; simp; omega) _) (hb.mono (by have := hw1.size; simp; omega))
       clear hb E2 hw1)
    | (go_at_call 134; with_reducible refine (CF.out _).mono ?_; rintro e w3 ⟨rfl, hb⟩
       have G2 := F2.below hb F2.lt
       have hw3 : Below w.heap.size w w3 := hw2.trans (hb.mono hw2.size)
       obtain ⟨c0, c1, f0, f1⟩ := G2.two
       clear hb F2 hw2))
  refine bodyPost_ret (v := .tuple #[.agg #[.int .i64 r1, .int .i64 r2], .int .i64 r3]) (by simp [results, Tryz.results76, go_sem, c0, c1]) rfl ⟨rfl, ?_⟩
  go_grown
  all_goals first | exact hw3 | exact hw3.size

set_option maxHeartbeats 1000000 in
theorem sub_any (n k : Int) (s t : Nat) (ha : Rt n s) (hB : Rt k t) (w : World) : Calls Tryz.prog 77 #[.agg #[.int .i64 n, .int .i64 (s : Int)], .agg #[.int .i64 k, .int .i64 (t : Int)]] w fun e w' =>
    e = .returned (.tuple #[.agg #[.int .i64 (subF n s k t).1, .int .i64 (subF n s k t).2.1], .int .i64 (subF n s k t).2.2]) ∧ Below w.heap.size w w' := by
  obtain ⟨b1, b2, m1, m2, M, L⟩ := level_ex n k s t ha hB
  have hbx := L.bx
  have hbz := L.bz
  have hm9 := L.m9
  have CL := Lib.hid L.call
  have CP := Lib.hid (fun w => plus_any b1 (!b2) m1 m2 (by omega) w)
  have hps := plusF_sgn b1 m1 (!b2) m2
  have hfit : subF n s k t = fitW (plusF b1 m1 (!b2) m2).1 (plusF b1 m1 (!b2) m2).2 M := by
    rw [fitW_Z, L.mM]
    unfold subF
    congr 1
    · rw [(plusF_sgn b1 m1 (!b2) m2).1, L.x, sgn_not, L.y]; omega
    · omega
  rw [hfit]
  obtain ⟨b3, hb3⟩ : ∃ b, b = (plusF b1 m1 (!b2) m2).1 := ⟨_, rfl⟩
  obtain ⟨m3, hm3⟩ : ∃ m, m = (plusF b1 m1 (!b2) m2).2 := ⟨_, rfl⟩
  have CF := Lib.hid (fun w => fit_any b3 m3 M (by rw [hm3]; omega) (by omega) w)
  rw [← hb3, ← hm3] at CP ⊢
  obtain ⟨r, hr⟩ : ∃ r, r = fitW b3 m3 M := ⟨_, rfl⟩
  rw [← hr] at CF ⊢
  obtain ⟨r1, r2, r3⟩ := r
  clear hr hb3 hm3 hfit hps hbx hbz hm9 L
  go_enter Tryz.func77, Tryz.ntmps77
  go_wp2_with (first
    | (go_at_call 132; with_reducible refine (CL.out _).mono ?_; rintro e w1 ⟨rfl, hb⟩
       have E2 : Blk w1 (w.heap.size + 1 + 1) #[.int .i64 0, .int .i64 0] 106 := (Blk.here rfl (by simp)).below hb (by simp)
       have hw1 : Below w.heap.size w w1 := Below.trans (by go_grown) (hb.mono (by simp; omega))
       clear hb)
    | (go_at_call 133; with_reducible refine (CP.out _).mono ?_; rintro e w2 ⟨rfl, hb⟩
       have F2 := ((E2.alloc _).alloc _).below hb (by have := E2.lt; simp; omega)
       have hw2 : Below w.heap.size w w2 := Below.trans ((hw1.alloc hw1.size _).alloc (by have := hw1.size; simp; omega) _) (hb.mono (by have := hw1.size; simp; omega))
       clear hb E2 hw1)
    | (go_at_call 134; with_reducible refine (CF.out _).mono ?_; rintro e w3 ⟨rfl, hb⟩
       have G2 := F2.below hb F2.lt
       have hw3 : Below w.heap.size w w3 := hw2.trans (hb.mono hw2.size)
       obtain ⟨c0, c1, f0, f1⟩ := G2.two
       clear hb F2 hw2))
  refine bodyPost_ret (v := .tuple #[.agg #[.int .i64 r1, .int .i64 r2], .int .i64 r3]) (by simp [results, Tryz.results77, go_sem, c0, c1]) rfl ⟨rfl, ?_⟩
  go_grown
  all_goals first | exact hw3 | exact hw3.size

set_option maxHeartbeats 1000000 in
theorem cmp_any (n k : Int) (s t : Nat) (ha : Rt n s) (hB : Rt k t) (w : World) : Calls Tryz.prog 144 #[.agg #[.int .i64 n, .int .i64 (s : Int)], .agg #[.int .i64 k, .int .i64 (t : Int)]] w fun e w' =>
    e = .returned (.int .i64 (cmpF n s k t)) ∧ Below w.heap.size w w' := by
  obtain ⟨b1, b2, m1, m2, M, L⟩ := level_ex n k s t ha hB
  have hbx := L.bx
  have hbz := L.bz
  have CL := Lib.hid L.call
  have CP := Lib.hid (fun w => plus_any b1 (!b2) m1 m2 (by omega) w)
  have hps := plusF_sgn b1 m1 (!b2) m2
  have hz : sgn (plusF b1 m1 (!b2) m2).1 (plusF b1 m1 (!b2) m2).2 = lvl n s t - lvl k t s := by
    rw [hps.1, L.x, sgn_not, L.y]
    omega
  obtain ⟨b3, hb3⟩ : ∃ b, b = (plusF b1 m1 (!b2) m2).1 := ⟨_, rfl⟩
  obtain ⟨m3, hm3⟩ : ∃ m, m = (plusF b1 m1 (!b2) m2).2 := ⟨_, rfl⟩
  rw [← hb3, ← hm3] at CP hz
  have CN := Lib.hid (fun w => nought_any b3 m3 w)
  have hc : cmpF n s k t = if m3 == 0 then 0 else if b3 then -1 else 1 := by
    unfold cmpF
    rw [← hz]
    unfold sgn
    cases e : (m3 == 0)
    · simp at e
      cases b3
      · have e1 : ((m3 : Int) == 0) = false := by simp; omega
        have e2 : decide ((m3 : Int) < 0) = false := by simp
        simp [e1, e2, e]
      · have e1 : ((-(m3 : Int)) == 0) = false := by simp; omega
        have e2 : decide (-(m3 : Int) < 0) = true := by simp; omega
        simp [e] <;> omega
    · simp at e
      subst e
      cases b3 <;> simp
  rw [hc]
  clear hz hc hb3 hm3 hps hbx hbz L
  cases ez : (m3 == 0) <;> cases b3
  all_goals
    go_enter Tryz.func144, Tryz.ntmps144
    go_wp2_with (first
      | (go_at_call 132; with_reducible refine (CL.out _).mono ?_; rintro e w1 ⟨rfl, hb⟩
         have hw1 : Below w.heap.size w w1 := Below.trans (by go_grown) (hb.mono (by simp; omega))
         clear hb)
      | (go_at_call 133; with_reducible refine (CP.out _).mono ?_; rintro e w2 ⟨rfl, hb⟩
         have hw2 : Below w.heap.size w w2 := Below.trans ((hw1.alloc hw1.size _).alloc (by have := hw1.size; simp; omega) _) (hb.mono (by have := hw1.size; simp; omega))
         clear hb hw1)
      | (go_at_call 139; with_reducible refine (CN.out _).mono ?_; rintro e w3 ⟨rfl, rfl⟩; rw [ez]; simp only [wb]))
    go_returns
    refine ⟨rfl, ?_⟩
    go_grown
    all_goals first | exact hw2 | exact hw2.size | (have := hw2.size; simp; omega)
end Go.Proofs.YtfagfkfcokmclaaGreatDoor
