/- TypesEven returns true and keeps what was there, for all types whose names have at most 2^47/8 bytes. -/
import Derived.Test.YtpnlhkpibgngbaaEvP
import Derived.Deep.RegionHeld3
import Derived.Test.YtpnlhkpibgngbaaSg
set_option linter.unusedSimpArgs false
set_option linter.unusedVariables false
namespace Go.Proofs.Ytpnlhkpibgngbaa
open Go.RowKit

theorem TyRow.blk {w : World} {b : Nat} {t : TypeId} {xs : List T3} (h : Blk w b (tyL xs).toArray t) : TyRow w (some ⟨b, 0, none⟩) xs := by
  refine .inr ⟨_, rfl, h.lt, fun j x hx => ?_⟩
  obtain ⟨h1, h2, h3⟩ := tyL_get xs j x hx
  exact ⟨by rw [h.cell]; simpa using h1, by rw [h.cell]; simpa using h2, by rw [h.cell]; simpa using h3⟩

theorem since2 {w w1 : World} (o : Obj) (h : Since w w1 ∧ ∀ b o, b < w.heap.size → w1.cell? ⟨b, o, none⟩ = w.cell? ⟨b, o, none⟩) : Since w (w1.alloc o) ∧ ∀ b o', b < w.heap.size → (w1.alloc o).cell? ⟨b, o', none⟩ = w.cell? ⟨b, o', none⟩ :=
  have k : Below w.heap.size w (w1.alloc o) := Below.alloc h.1 h.1.size o
  ⟨k, (bcell k).1⟩

set_option linter.constructorNameAsVariable false in
set_option maxRecDepth 100000 in
set_option maxHeartbeats 40000000 in
theorem even_any (i0 : Int) (n0 : ByteArray) (o0 i1 : Int) (n1 : ByteArray) (o1 i2 : Int) (n2 : ByteArray) (o2 : Int) (w : World)
    (s0 : n0.size * 8 ≤ 140737488351232) (s1 : n1.size * 8 ≤ 140737488351232) (s2 : n2.size * 8 ≤ 140737488351232) :
    Calls Try.prog 4 #[.agg #[.int .i64 i0, .string n0, .int .i64 o0], .agg #[.int .i64 i1, .string n1, .int .i64 o1], .agg #[.int .i64 i2, .string n2, .int .i64 o2]] w fun e w' => e = .returned (.bool true) ∧ Below w.heap.size w w' := by
  go_enter Try.func4, Try.ntmps4
  go_wp2_with fail
  refine (awake_any _).mono ?_
  rintro e w1 ⟨rfl, b1⟩
  obtain ⟨hc1, hf1⟩ := bcell b1
  have z1 := b1.size
  simp only [World.size_alloc] at z1
  have l10 : w.heap.size < w1.heap.size := by omega
  have l11 : w.heap.size + 1 < w1.heap.size := by omega
  have l12 : w.heap.size + 1 + 1 < w1.heap.size := by omega
  go_wp2_with fail
  refine (rright_any _ _ _ _ s0).mono ?_
  rintro e w2 ⟨r0, rfl, b2, hr0⟩
  obtain ⟨hc2, hf2⟩ := bcell b2
  have z2 := b2.size
  have l20 : w.heap.size < w2.heap.size := by omega
  have l21 : w.heap.size + 1 < w2.heap.size := by omega
  have l22 : w.heap.size + 1 + 1 < w2.heap.size := by omega
  have HR0 := Lib.hid hr0
  clear hr0
  have k1 := Below.trans (Below.alloc (Below.alloc (Below.alloc (Below.refl w.heap.size w) (Nat.le_refl _) _) (by simp) _) (by simp; omega) _) (b1.mono (by simp; omega))
  have k2 : Below w.heap.size w w2 := k1.trans (b2.mono (by omega))
  clear k1
  cases r0
  case false =>
    go_wp2_with fail
    refine (awake_any _).mono ?_
    rintro e w3 ⟨rfl, b3⟩
    go_wp2_with fail
    go_light
    go_ret
    exact ⟨rfl, k2.trans (b3.mono k2.size)⟩
  case true =>
  go_wp2_with fail
  refine (rright_any _ _ _ _ s1).mono ?_
  rintro e w3 ⟨r1, rfl, b3, hr1⟩
  obtain ⟨hc3, hf3⟩ := bcell b3
  have z3 := b3.size
  have l30 : w.heap.size < w3.heap.size := by omega
  have l31 : w.heap.size + 1 < w3.heap.size := by omega
  have l32 : w.heap.size + 1 + 1 < w3.heap.size := by omega
  have HR1 := Lib.hid hr1
  clear hr1
  have k3 : Below w.heap.size w w3 := k2.trans (b3.mono k2.size)
  cases r1
  case false =>
    go_wp2_with fail
    refine (awake_any _).mono ?_
    rintro e w4 ⟨rfl, b4⟩
    go_wp2_with fail
    go_light
    go_ret
    exact ⟨rfl, k3.trans (b4.mono k3.size)⟩
  case true =>
  go_wp2_with fail
  refine (rright_any _ _ _ _ s2).mono ?_
  rintro e w4 ⟨r2, rfl, b4, hr2⟩
  obtain ⟨hc4, hf4⟩ := bcell b4
  have z4 := b4.size
  have l40 : w.heap.size < w4.heap.size := by omega
  have l41 : w.heap.size + 1 < w4.heap.size := by omega
  have l42 : w.heap.size + 1 + 1 < w4.heap.size := by omega
  have HR2 := Lib.hid hr2
  clear hr2
  have k4 : Below w.heap.size w w4 := k3.trans (b4.mono k3.size)
  cases r2
  case false =>
    go_wp2_with fail
    refine (awake_any _).mono ?_
    rintro e w5 ⟨rfl, b5⟩
    go_wp2_with fail
    go_light
    go_ret
    exact ⟨rfl, k4.trans (b5.mono k4.size)⟩
  case true =>
  have g0 := HR0.out (by trivial)
  have g1 := HR1.out (by trivial)
  have g2 := HR2.out (by trivial)
  have A0 : w4.cell? ⟨w.heap.size, 0, none⟩ = some (.int .i64 i0) := by simp [hc4, hc3, hc2, hc1, l10, l20, l30, l40, go_sem]
  have A1 : w4.cell? ⟨w.heap.size, 1, none⟩ = some (.string n0) := by simp [hc4, hc3, hc2, hc1, l10, l20, l30, l40, go_sem]
  have A2 : w4.cell? ⟨w.heap.size, 2, none⟩ = some (.int .i64 o0) := by simp [hc4, hc3, hc2, hc1, l10, l20, l30, l40, go_sem]
  have B0 : w4.cell? ⟨w.heap.size + 1, 0, none⟩ = some (.int .i64 i1) := by simp [hc4, hc3, hc2, hc1, l11, l21, l31, l41, go_sem]
  have B1 : w4.cell? ⟨w.heap.size + 1, 1, none⟩ = some (.string n1) := by simp [hc4, hc3, hc2, hc1, l11, l21, l31, l41, go_sem]
  have B2 : w4.cell? ⟨w.heap.size + 1, 2, none⟩ = some (.int .i64 o1) := by simp [hc4, hc3, hc2, hc1, l11, l21, l31, l41, go_sem]
  have C0 : w4.cell? ⟨w.heap.size + 1 + 1, 0, none⟩ = some (.int .i64 i2) := by simp [hc4, hc3, hc2, hc1, l12, l22, l32, l42, go_sem]
  have C1 : w4.cell? ⟨w.heap.size + 1 + 1, 1, none⟩ = some (.string n2) := by simp [hc4, hc3, hc2, hc1, l12, l22, l32, l42, go_sem]
  have C2 : w4.cell? ⟨w.heap.size + 1 + 1, 2, none⟩ = some (.int .i64 o2) := by simp [hc4, hc3, hc2, hc1, l12, l22, l32, l42, go_sem]
  clear hc1 hf1 hc2 hf2 hc3 hf3 hc4 hf4 b1 b2 b3 b4 z1 z2 z3 z4 HR0 HR1 HR2 k2 k3 l10 l11 l12 l20 l21 l22 l30 l31 l32

  have GI := Lib.hid (ev_is ⟨i0, n0, o0⟩ g0)
  have CS := Lib.hid (fun w x h => either_any x 2 [⟨i0, n0, o0⟩, ⟨i0, n0, o0⟩] w h rfl (by omega))
  have CT := Lib.hid (fun w => times_any 3 ⟨#[]⟩ 0 i0 n0 o0 w)
  rw [ev_times ⟨i0, n0, o0⟩ g0] at CT
  have GS := ev_sub ⟨i0, n0, o0⟩ g0
  have CU := Lib.hid (fun w => sub_any i0 n0 o0 (eitherF [⟨i0, n0, o0⟩, ⟨i0, n0, o0⟩]).i (eitherF [⟨i0, n0, o0⟩, ⟨i0, n0, o0⟩]).n (eitherF [⟨i0, n0, o0⟩, ⟨i0, n0, o0⟩]).o w)
  have CV := Lib.hid (fun w => sub_any (eitherF [⟨i0, n0, o0⟩, ⟨i0, n0, o0⟩]).i (eitherF [⟨i0, n0, o0⟩, ⟨i0, n0, o0⟩]).n (eitherF [⟨i0, n0, o0⟩, ⟨i0, n0, o0⟩]).o i0 n0 o0 w)
  rw [show (T3.mk (eitherF [⟨i0, n0, o0⟩, ⟨i0, n0, o0⟩]).i (eitherF [⟨i0, n0, o0⟩, ⟨i0, n0, o0⟩]).n (eitherF [⟨i0, n0, o0⟩, ⟨i0, n0, o0⟩]).o) = eitherF [⟨i0, n0, o0⟩, ⟨i0, n0, o0⟩] from rfl] at CU CV
  rw [GS.1] at CU
  rw [GS.2] at CV
  clear GS
  generalize eitherF [⟨i0, n0, o0⟩, ⟨i0, n0, o0⟩] = S at *
  obtain ⟨s1, s2, s3⟩ := S
  simp only at CS CT CU CV
  have E1 := Lib.hid (fun w x h => either_any x 2 [⟨i0, n0, o0⟩, ⟨i1, n1, o1⟩] w h rfl (by omega))
  have E2 := Lib.hid (fun w x h => either_any x 2 [⟨i1, n1, o1⟩, ⟨i0, n0, o0⟩] w h rfl (by omega))
  rw [ev_e_swap ⟨i0, n0, o0⟩ ⟨i1, n1, o1⟩ g0 g1] at E2
  have J1 := Lib.hid (fun w x h => join_any x 2 [⟨i0, n0, o0⟩, ⟨i1, n1, o1⟩] w h rfl (by omega))
  have J2 := Lib.hid (fun w x h => join_any x 2 [⟨i1, n1, o1⟩, ⟨i0, n0, o0⟩] w h rfl (by omega))
  rw [ev_j_swap ⟨i0, n0, o0⟩ ⟨i1, n1, o1⟩ g0 g1] at J2
  have E3 := Lib.hid (fun w x h => either_any x 2 [eitherF [⟨i0, n0, o0⟩, ⟨i1, n1, o1⟩], ⟨i2, n2, o2⟩] w h rfl (by omega))
  have E4 := Lib.hid (fun w x h => either_any x 2 [⟨i1, n1, o1⟩, ⟨i2, n2, o2⟩] w h rfl (by omega))
  have E5 := Lib.hid (fun w x h => either_any x 2 [⟨i0, n0, o0⟩, eitherF [⟨i1, n1, o1⟩, ⟨i2, n2, o2⟩]] w h rfl (by omega))
  rw [ev_e_third ⟨i0, n0, o0⟩ ⟨i1, n1, o1⟩ ⟨i2, n2, o2⟩ g0 g1 g2] at E5
  have J3 := Lib.hid (fun w x h => join_any x 2 [joinF [⟨i0, n0, o0⟩, ⟨i1, n1, o1⟩], ⟨i2, n2, o2⟩] w h rfl (by omega))
  have J4 := Lib.hid (fun w x h => join_any x 2 [⟨i1, n1, o1⟩, ⟨i2, n2, o2⟩] w h rfl (by omega))
  have J5 := Lib.hid (fun w x h => join_any x 2 [⟨i0, n0, o0⟩, joinF [⟨i1, n1, o1⟩, ⟨i2, n2, o2⟩]] w h rfl (by omega))
  rw [ev_j_third ⟨i0, n0, o0⟩ ⟨i1, n1, o1⟩ ⟨i2, n2, o2⟩ g0 g1 g2] at J5
  generalize eitherF [eitherF [⟨i0, n0, o0⟩, ⟨i1, n1, o1⟩], ⟨i2, n2, o2⟩] = X3 at *
  generalize eitherF [⟨i0, n0, o0⟩, ⟨i1, n1, o1⟩] = X1 at *
  generalize eitherF [⟨i1, n1, o1⟩, ⟨i2, n2, o2⟩] = X2 at *
  generalize joinF [joinF [⟨i0, n0, o0⟩, ⟨i1, n1, o1⟩], ⟨i2, n2, o2⟩] = Y3 at *
  generalize joinF [⟨i0, n0, o0⟩, ⟨i1, n1, o1⟩] = Y1 at *
  generalize joinF [⟨i1, n1, o1⟩, ⟨i2, n2, o2⟩] = Y2 at *
  obtain ⟨x1, x2, x3⟩ := X1
  obtain ⟨y1, y2, y3⟩ := X2
  obtain ⟨z1, z2, z3⟩ := X3
  obtain ⟨t1, t2, t3⟩ := Y1
  obtain ⟨u1, u2, u3⟩ := Y2
  obtain ⟨v1, v2, v3⟩ := Y3
  simp only at E1 E2 E3 E4 E5 J1 J2 J3 J4 J5
  have GN := Lib.hid g0.2.2.2.2
  clear g0 g1 g2
  go_wp2_with fail
  have W5 : Below w.heap.size w (w4.alloc (Obj.cells #[Value.int IntKind.i64 3, Value.string { data := #[] }, Value.int IntKind.i64 0] 25)) := k4.alloc k4.size _
  have D0 : (w4.alloc (Obj.cells #[Value.int IntKind.i64 3, Value.string { data := #[] }, Value.int IntKind.i64 0] 25)).cell? ⟨w4.heap.size, 0, none⟩ = some (Value.int IntKind.i64 3) := by simp [go_sem]
  have D1 : (w4.alloc (Obj.cells #[Value.int IntKind.i64 3, Value.string { data := #[] }, Value.int IntKind.i64 0] 25)).cell? ⟨w4.heap.size, 1, none⟩ = some (Value.string { data := #[] }) := by simp [go_sem]
  have D2 : (w4.alloc (Obj.cells #[Value.int IntKind.i64 3, Value.string { data := #[] }, Value.int IntKind.i64 0] 25)).cell? ⟨w4.heap.size, 2, none⟩ = some (Value.int IntKind.i64 0) := by simp [go_sem]
  rw [← World.cell?_alloc_past (w := w4) (Obj.cells #[Value.int IntKind.i64 3, Value.string { data := #[] }, Value.int IntKind.i64 0] 25) _ _ l40] at A0 A1 A2
  rw [← World.cell?_alloc_past (w := w4) (Obj.cells #[Value.int IntKind.i64 3, Value.string { data := #[] }, Value.int IntKind.i64 0] 25) _ _ l41] at B0 B1 B2
  rw [← World.cell?_alloc_past (w := w4) (Obj.cells #[Value.int IntKind.i64 3, Value.string { data := #[] }, Value.int IntKind.i64 0] 25) _ _ l42] at C0 C1 C2
  obtain ⟨p4, hp4⟩ : ∃ p4, p4 = w4.heap.size := ⟨_, rfl⟩
  have lp3 : (w4.alloc (Obj.cells #[Value.int IntKind.i64 3, Value.string { data := #[] }, Value.int IntKind.i64 0] 25)).heap.size = p4 + 1 := by rw [hp4]; simp
  have lp0 : w.heap.size < p4 := by omega
  have lp1 : w.heap.size + 1 < p4 := by omega
  have lp2 : w.heap.size + 1 + 1 < p4 := by omega
  rw [← hp4] at D0 D1 D2 ⊢
  clear k4 l40 l41 l42 hp4
  generalize w4.alloc (Obj.cells #[Value.int IntKind.i64 3, Value.string { data := #[] }, Value.int IntKind.i64 0] 25) = w5 at *
  have m0 : w.heap.size < w5.heap.size := by omega
  have m1 : w.heap.size + 1 < w5.heap.size := by omega
  have m2 : w.heap.size + 1 + 1 < w5.heap.size := by omega
  have m3 : p4 < w5.heap.size := by omega
  have r5 : TyRow (w5.alloc (Obj.cells #[Value.int IntKind.i64 i0, Value.string n0, Value.int IntKind.i64 o0, Value.int IntKind.i64 i0, Value.string n0, Value.int IntKind.i64 o0] 25)) (some ⟨p4 + 1, 0, none⟩) [⟨i0, n0, o0⟩, ⟨i0, n0, o0⟩] := by rw [← lp3]; exact TyRow.new _ _ _ rfl
  clear lp3
  refine (CS.out _ _ r5).mono ?_
  rintro e w1 ⟨rfl, hb1⟩
  have K1 : Below w5.heap.size w5 w1 := ((Below.refl _ _).alloc (Nat.le_refl _) _).trans (hb1.mono (by simp))
  clear hb1 r5 CS
  go_wp2_with fail
  have K6 : Below w5.heap.size w5 (w1.alloc (Obj.cells #[Value.int IntKind.i64 s1, Value.string s2, Value.int IntKind.i64 s3] 25)) := K1.alloc K1.size _
  have W6 : Below w.heap.size w (w1.alloc (Obj.cells #[Value.int IntKind.i64 s1, Value.string s2, Value.int IntKind.i64 s3] 25)) := W5.trans (K6.mono W5.size)
  have e0 : (w1.alloc (Obj.cells #[Value.int IntKind.i64 s1, Value.string s2, Value.int IntKind.i64 s3] 25)).cell? ⟨w1.heap.size, 0, none⟩ = some (.int .i64 s1) := by simp [go_sem]
  have e1 : (w1.alloc (Obj.cells #[Value.int IntKind.i64 s1, Value.string s2, Value.int IntKind.i64 s3] 25)).cell? ⟨w1.heap.size, 1, none⟩ = some (.string s2) := by simp [go_sem]
  have e2 : (w1.alloc (Obj.cells #[Value.int IntKind.i64 s1, Value.string s2, Value.int IntKind.i64 s3] 25)).cell? ⟨w1.heap.size, 2, none⟩ = some (.int .i64 s3) := by simp [go_sem]
  have hcS := (bcell K6).1
  rw [← hcS _ _ m0] at A0 A1 A2
  rw [← hcS _ _ m1] at B0 B1 B2
  rw [← hcS _ _ m2] at C0 C1 C2
  rw [← hcS _ _ m3] at D0 D1 D2
  have hzS := K6.size
  have m5 : w1.heap.size < (w1.alloc (Obj.cells #[Value.int IntKind.i64 s1, Value.string s2, Value.int IntKind.i64 s3] 25)).heap.size := by simp
  obtain ⟨qx, hqx⟩ : ∃ qx, qx = w1.heap.size := ⟨_, rfl⟩
  rw [← hqx] at e0 e1 e2 m5 ⊢
  clear hqx hcS K1 K6 W5 lp0 lp1 lp2
  generalize w1.alloc (Obj.cells #[Value.int IntKind.i64 s1, Value.string s2, Value.int IntKind.i64 s3] 25) = w6 at *
  replace m0 : w.heap.size < w6.heap.size := by omega
  replace m1 : w.heap.size + 1 < w6.heap.size := by omega
  replace m2 : w.heap.size + 1 + 1 < w6.heap.size := by omega
  replace m3 : p4 < w6.heap.size := by omega
  clear hzS
  refine region_parts (by kernel_rfl) fun wc hwc => ?_
  refine part_steps w6 0 10 [some 32, some 33, some 34, some 35, some 36, some 37, some 38, some 39, some 40, some 41] hwc (by kernel_rfl) ?_
  clear hwc wc
  -- 0: Op.load 25 (Operand.tmp 3)
  apply ps_val
  · intro x w' hb hpre K hK
    have hc := (bcell hb).1
    clear hpre
    simp only [frL, Act.put, List.setIfInBounds_toArray, List.set_cons_zero, List.set_cons_succ, Nat.zero_add, Nat.reduceAdd] at hK ⊢
    have HK := Lib.hid hK
    clear hK
    refine Held.mk ?_
    go_simp
    exact HK.out _ (Below.refl _ _)
  -- 1: Op.load 25 (Operand.tmp 4)
  apply ps_val
  · intro x w' hb hpre K hK
    have hc := (bcell hb).1
    clear hpre
    simp only [frL, Act.put, List.setIfInBounds_toArray, List.set_cons_zero, List.set_cons_succ, Nat.zero_add, Nat.reduceAdd] at hK ⊢
    have HK := Lib.hid hK
    clear hK
    refine Held.mk ?_
    go_simp
    exact HK.out _ (Below.refl _ _)
  -- 2: Op.buildSlice 55 2 #[(0, Operand.tmp 32), (1, Operand.tmp 33)]
  refine ps_gen (.row w6.heap.size 2 #[.int .i64 i0, .string n0, .int .i64 o0, .int .i64 i1, .string n1, .int .i64 o1] 25) ?_ ?_
  · intro x w' hb hpre K hK
    have hc := (bcell hb).1
    simp [preds, Region.binds, phi, phiO, MP.val, MP.box, MP.row] at hpre
    simp only [frL, Act.put, List.setIfInBounds_toArray, List.set_cons_zero, List.set_cons_succ, Nat.zero_add, Nat.reduceAdd, hpre] at hK ⊢
    have HK := Lib.hid hK
    clear hK
    refine Held.mk ?_
    go_simp
    exact HK.out _ _ ⟨_, rfl, hb.size, Blk.new _ _ _⟩ ((Below.refl _ _).alloc (Nat.le_refl _) _)
  -- 3: Op.call { callee := Callee.value (Operand.func 11), args := #[Operand.tmp 34], argTypes :=
  apply ps_val
  · intro x w' hb hpre K hK
    have hc := (bcell hb).1
    simp [preds, Region.binds, phi, phiO, MP.val, MP.box, MP.row] at hpre
    obtain ⟨q2, h2, hq2, hB2⟩ := hpre
    simp only [frL, Act.put, List.setIfInBounds_toArray, List.set_cons_zero, List.set_cons_succ, Nat.zero_add, Nat.reduceAdd, h2] at hK ⊢
    have HK := Lib.hid hK
    clear hK
    refine Held.mk ?_
    go_simp
    (with_reducible refine (E1.out _ _ (TyRow.blk (t := 25) (xs := [⟨i0, n0, o0⟩, ⟨i1, n1, o1⟩]) ?_)).mono ?_)
    exact hB2
    rintro e w1 ⟨rfl, hb1⟩
    dsimp only
    exact HK.out _ hb1
  -- 4: Op.load 25 (Operand.tmp 4)
  apply ps_val
  · intro x w' hb hpre K hK
    have hc := (bcell hb).1
    clear hpre
    simp only [frL, Act.put, List.setIfInBounds_toArray, List.set_cons_zero, List.set_cons_succ, Nat.zero_add, Nat.reduceAdd] at hK ⊢
    have HK := Lib.hid hK
    clear hK
    refine Held.mk ?_
    go_simp
    exact HK.out _ (Below.refl _ _)
  -- 5: Op.load 25 (Operand.tmp 3)
  apply ps_val
  · intro x w' hb hpre K hK
    have hc := (bcell hb).1
    clear hpre
    simp only [frL, Act.put, List.setIfInBounds_toArray, List.set_cons_zero, List.set_cons_succ, Nat.zero_add, Nat.reduceAdd] at hK ⊢
    have HK := Lib.hid hK
    clear hK
    refine Held.mk ?_
    go_simp
    exact HK.out _ (Below.refl _ _)
  -- 6: Op.buildSlice 55 2 #[(0, Operand.tmp 36), (1, Operand.tmp 37)]
  refine ps_gen (.row w6.heap.size 2 #[.int .i64 i1, .string n1, .int .i64 o1, .int .i64 i0, .string n0, .int .i64 o0] 25) ?_ ?_
  · intro x w' hb hpre K hK
    have hc := (bcell hb).1
    simp [preds, Region.binds, phi, phiO, MP.val, MP.box, MP.row] at hpre
    simp only [frL, Act.put, List.setIfInBounds_toArray, List.set_cons_zero, List.set_cons_succ, Nat.zero_add, Nat.reduceAdd, hpre] at hK ⊢
    have HK := Lib.hid hK
    clear hK
    refine Held.mk ?_
    go_simp
    exact HK.out _ _ ⟨_, rfl, hb.size, Blk.new _ _ _⟩ ((Below.refl _ _).alloc (Nat.le_refl _) _)
  -- 7: Op.call { callee := Callee.value (Operand.func 11), args := #[Operand.tmp 38], argTypes :=
  apply ps_val
  · intro x w' hb hpre K hK
    have hc := (bcell hb).1
    simp [preds, Region.binds, phi, phiO, MP.val, MP.box, MP.row] at hpre
    obtain ⟨⟨q6, h6, hq6, hB6⟩, hrest⟩ := hpre
    simp only [frL, Act.put, List.setIfInBounds_toArray, List.set_cons_zero, List.set_cons_succ, Nat.zero_add, Nat.reduceAdd, h6, hrest] at hK ⊢
    have HK := Lib.hid hK
    clear hK
    refine Held.mk ?_
    go_simp
    (with_reducible refine (E2.out _ _ (TyRow.blk (t := 25) (xs := [⟨i1, n1, o1⟩, ⟨i0, n0, o0⟩]) ?_)).mono ?_)
    exact hB6
    rintro e w1 ⟨rfl, hb1⟩
    dsimp only
    exact HK.out _ hb1
  -- 8: Op.binOp BinOp.eql 25 (Operand.tmp 35) (Operand.tmp 39) 25
  apply ps_val
  · intro x w' hb hpre K hK
    have hc := (bcell hb).1
    simp [preds, Region.binds, phi, phiO, MP.val, MP.box, MP.row] at hpre
    simp only [frL, Act.put, List.setIfInBounds_toArray, List.set_cons_zero, List.set_cons_succ, Nat.zero_add, Nat.reduceAdd, hpre] at hK ⊢
    have HK := Lib.hid hK
    clear hK
    refine Held.mk ?_
    go_simp
    exact HK.out _ (Below.refl _ _)
  -- 9: Op.move (Operand.tmp 40)
  apply ps_val
  · intro x w' hb hpre K hK
    have hc := (bcell hb).1
    simp [preds, Region.binds, phi, phiO, MP.val, MP.box, MP.row] at hpre
    simp only [frL, Act.put, List.setIfInBounds_toArray, List.set_cons_zero, List.set_cons_succ, Nat.zero_add, Nat.reduceAdd, hpre] at hK ⊢
    have HK := Lib.hid hK
    clear hK
    refine Held.mk ?_
    go_simp
    exact HK.out _ (Below.refl _ _)
  intro x w' hb hp
  simp only [List.cons_append, List.nil_append, phis, MP.val, MP.box, MP.row, frL, Act.put, List.setIfInBounds_toArray, List.set_cons_zero, List.set_cons_succ, Nat.zero_add, Nat.reduceAdd] at hp ⊢
  obtain ⟨h0, h1, ⟨q2, h2, hq2, hB2⟩, h3, h4, h5, ⟨q6, h6, hq6, hB6⟩, h7, h8, h9, -⟩ := hp
  simp only [h0, h1, h2, h3, h4, h5, h6, h7, h8, h9]
  clear h0 h1 h2 h3 h4 h5 h6 h7 h8 h9
  clear hq2 hB2 hq6 hB6
  refine part_steps w6 10 21 [some 42, some 43, some 44, some 45, some 46, some 47, some 48, some 49, some 50, some 51, some 52] hb (by kernel_rfl) ?_
  clear hb x w'
  -- 10: Op.load 25 (Operand.tmp 3)
  apply ps_val
  · intro x w' hb hpre K hK
    have hc := (bcell hb).1
    clear hpre
    simp only [frL, Act.put, List.setIfInBounds_toArray, List.set_cons_zero, List.set_cons_succ, Nat.zero_add, Nat.reduceAdd] at hK ⊢
    have HK := Lib.hid hK
    clear hK
    refine Held.mk ?_
    go_simp
    exact HK.out _ (Below.refl _ _)
  -- 11: Op.load 25 (Operand.tmp 4)
  apply ps_val
  · intro x w' hb hpre K hK
    have hc := (bcell hb).1
    clear hpre
    simp only [frL, Act.put, List.setIfInBounds_toArray, List.set_cons_zero, List.set_cons_succ, Nat.zero_add, Nat.reduceAdd] at hK ⊢
    have HK := Lib.hid hK
    clear hK
    refine Held.mk ?_
    go_simp
    exact HK.out _ (Below.refl _ _)
  -- 12: Op.buildSlice 55 2 #[(0, Operand.tmp 42), (1, Operand.tmp 43)]
  refine ps_gen (.row w6.heap.size 2 #[.int .i64 i0, .string n0, .int .i64 o0, .int .i64 i1, .string n1, .int .i64 o1] 25) ?_ ?_
  · intro x w' hb hpre K hK
    have hc := (bcell hb).1
    simp [preds, Region.binds, phi, phiO, MP.val, MP.box, MP.row] at hpre
    simp only [frL, Act.put, List.setIfInBounds_toArray, List.set_cons_zero, List.set_cons_succ, Nat.zero_add, Nat.reduceAdd, hpre] at hK ⊢
    have HK := Lib.hid hK
    clear hK
    refine Held.mk ?_
    go_simp
    exact HK.out _ _ ⟨_, rfl, hb.size, Blk.new _ _ _⟩ ((Below.refl _ _).alloc (Nat.le_refl _) _)
  -- 13: Op.call { callee := Callee.value (Operand.func 12), args := #[Operand.tmp 44], argTypes :=
  apply ps_val
  · intro x w' hb hpre K hK
    have hc := (bcell hb).1
    simp [preds, Region.binds, phi, phiO, MP.val, MP.box, MP.row] at hpre
    obtain ⟨q12, h12, hq12, hB12⟩ := hpre
    simp only [frL, Act.put, List.setIfInBounds_toArray, List.set_cons_zero, List.set_cons_succ, Nat.zero_add, Nat.reduceAdd, h12] at hK ⊢
    have HK := Lib.hid hK
    clear hK
    refine Held.mk ?_
    go_simp
    (with_reducible refine (J1.out _ _ (TyRow.blk (t := 25) (xs := [⟨i0, n0, o0⟩, ⟨i1, n1, o1⟩]) ?_)).mono ?_)
    exact hB12
    rintro e w1 ⟨rfl, hb1⟩
    dsimp only
    exact HK.out _ hb1
  -- 14: Op.load 25 (Operand.tmp 4)
  apply ps_val
  · intro x w' hb hpre K hK
    have hc := (bcell hb).1
    clear hpre
    simp only [frL, Act.put, List.setIfInBounds_toArray, List.set_cons_zero, List.set_cons_succ, Nat.zero_add, Nat.reduceAdd] at hK ⊢
    have HK := Lib.hid hK
    clear hK
    refine Held.mk ?_
    go_simp
    exact HK.out _ (Below.refl _ _)
  -- 15: Op.load 25 (Operand.tmp 3)
  apply ps_val
  · intro x w' hb hpre K hK
    have hc := (bcell hb).1
    clear hpre
    simp only [frL, Act.put, List.setIfInBounds_toArray, List.set_cons_zero, List.set_cons_succ, Nat.zero_add, Nat.reduceAdd] at hK ⊢
    have HK := Lib.hid hK
    clear hK
    refine Held.mk ?_
    go_simp
    exact HK.out _ (Below.refl _ _)
  -- 16: Op.buildSlice 55 2 #[(0, Operand.tmp 46), (1, Operand.tmp 47)]
  refine ps_gen (.row w6.heap.size 2 #[.int .i64 i1, .string n1, .int .i64 o1, .int .i64 i0, .string n0, .int .i64 o0] 25) ?_ ?_
  · intro x w' hb hpre K hK
    have hc := (bcell hb).1
    simp [preds, Region.binds, phi, phiO, MP.val, MP.box, MP.row] at hpre
    simp only [frL, Act.put, List.setIfInBounds_toArray, List.set_cons_zero, List.set_cons_succ, Nat.zero_add, Nat.reduceAdd, hpre] at hK ⊢
    have HK := Lib.hid hK
    clear hK
    refine Held.mk ?_
    go_simp
    exact HK.out _ _ ⟨_, rfl, hb.size, Blk.new _ _ _⟩ ((Below.refl _ _).alloc (Nat.le_refl _) _)
  -- 17: Op.call { callee := Callee.value (Operand.func 12), args := #[Operand.tmp 48], argTypes :=
  apply ps_val
  · intro x w' hb hpre K hK
    have hc := (bcell hb).1
    simp [preds, Region.binds, phi, phiO, MP.val, MP.box, MP.row] at hpre
    obtain ⟨⟨q16, h16, hq16, hB16⟩, hrest⟩ := hpre
    simp only [frL, Act.put, List.setIfInBounds_toArray, List.set_cons_zero, List.set_cons_succ, Nat.zero_add, Nat.reduceAdd, h16, hrest] at hK ⊢
    have HK := Lib.hid hK
    clear hK
    refine Held.mk ?_
    go_simp
    (with_reducible refine (J2.out _ _ (TyRow.blk (t := 25) (xs := [⟨i1, n1, o1⟩, ⟨i0, n0, o0⟩]) ?_)).mono ?_)
    exact hB16
    rintro e w1 ⟨rfl, hb1⟩
    dsimp only
    exact HK.out _ hb1
  -- 18: Op.binOp BinOp.eql 25 (Operand.tmp 45) (Operand.tmp 49) 25
  apply ps_val
  · intro x w' hb hpre K hK
    have hc := (bcell hb).1
    simp [preds, Region.binds, phi, phiO, MP.val, MP.box, MP.row] at hpre
    simp only [frL, Act.put, List.setIfInBounds_toArray, List.set_cons_zero, List.set_cons_succ, Nat.zero_add, Nat.reduceAdd, hpre] at hK ⊢
    have HK := Lib.hid hK
    clear hK
    refine Held.mk ?_
    go_simp
    exact HK.out _ (Below.refl _ _)
  -- 19: Op.pick (Operand.tmp 41) (Operand.tmp 50) (Operand.const (Value.bool false))
  apply ps_val
  · intro x w' hb hpre K hK
    have hc := (bcell hb).1
    simp [preds, Region.binds, phi, phiO, MP.val, MP.box, MP.row] at hpre
    simp only [frL, Act.put, List.setIfInBounds_toArray, List.set_cons_zero, List.set_cons_succ, Nat.zero_add, Nat.reduceAdd, hpre] at hK ⊢
    have HK := Lib.hid hK
    clear hK
    refine Held.mk ?_
    go_simp
    exact HK.out _ (Below.refl _ _)
  -- 20: Op.move (Operand.tmp 51)
  apply ps_val
  · intro x w' hb hpre K hK
    have hc := (bcell hb).1
    simp [preds, Region.binds, phi, phiO, MP.val, MP.box, MP.row] at hpre
    simp only [frL, Act.put, List.setIfInBounds_toArray, List.set_cons_zero, List.set_cons_succ, Nat.zero_add, Nat.reduceAdd, hpre] at hK ⊢
    have HK := Lib.hid hK
    clear hK
    refine Held.mk ?_
    go_simp
    exact HK.out _ (Below.refl _ _)
  intro x w' hb hp
  simp only [List.cons_append, List.nil_append, phis, MP.val, MP.box, MP.row, frL, Act.put, List.setIfInBounds_toArray, List.set_cons_zero, List.set_cons_succ, Nat.zero_add, Nat.reduceAdd] at hp ⊢
  obtain ⟨h10, h11, ⟨q12, h12, hq12, hB12⟩, h13, h14, h15, ⟨q16, h16, hq16, hB16⟩, h17, h18, h19, h20, -⟩ := hp
  simp only [h10, h11, h12, h13, h14, h15, h16, h17, h18, h19, h20]
  clear h10 h11 h12 h13 h14 h15 h16 h17 h18 h19 h20
  clear hq12 hB12 hq16 hB16
  refine part_steps w6 21 38 [some 53, some 54, some 55, some 56, some 57, some 58, some 59, some 60, some 61, some 62, some 63, some 64, some 65, some 66, some 67, some 68, some 69] hb (by kernel_rfl) ?_
  clear hb x w'
  -- 21: Op.load 25 (Operand.tmp 3)
  apply ps_val
  · intro x w' hb hpre K hK
    have hc := (bcell hb).1
    clear hpre
    simp only [frL, Act.put, List.setIfInBounds_toArray, List.set_cons_zero, List.set_cons_succ, Nat.zero_add, Nat.reduceAdd] at hK ⊢
    have HK := Lib.hid hK
    clear hK
    refine Held.mk ?_
    go_simp
    exact HK.out _ (Below.refl _ _)
  -- 22: Op.load 25 (Operand.tmp 4)
  apply ps_val
  · intro x w' hb hpre K hK
    have hc := (bcell hb).1
    clear hpre
    simp only [frL, Act.put, List.setIfInBounds_toArray, List.set_cons_zero, List.set_cons_succ, Nat.zero_add, Nat.reduceAdd] at hK ⊢
    have HK := Lib.hid hK
    clear hK
    refine Held.mk ?_
    go_simp
    exact HK.out _ (Below.refl _ _)
  -- 23: Op.buildSlice 55 2 #[(0, Operand.tmp 53), (1, Operand.tmp 54)]
  refine ps_gen (.row w6.heap.size 2 #[.int .i64 i0, .string n0, .int .i64 o0, .int .i64 i1, .string n1, .int .i64 o1] 25) ?_ ?_
  · intro x w' hb hpre K hK
    have hc := (bcell hb).1
    simp [preds, Region.binds, phi, phiO, MP.val, MP.box, MP.row] at hpre
    simp only [frL, Act.put, List.setIfInBounds_toArray, List.set_cons_zero, List.set_cons_succ, Nat.zero_add, Nat.reduceAdd, hpre] at hK ⊢
    have HK := Lib.hid hK
    clear hK
    refine Held.mk ?_
    go_simp
    exact HK.out _ _ ⟨_, rfl, hb.size, Blk.new _ _ _⟩ ((Below.refl _ _).alloc (Nat.le_refl _) _)
  -- 24: Op.call { callee := Callee.value (Operand.func 11), args := #[Operand.tmp 55], argTypes :=
  apply ps_val
  · intro x w' hb hpre K hK
    have hc := (bcell hb).1
    simp [preds, Region.binds, phi, phiO, MP.val, MP.box, MP.row] at hpre
    obtain ⟨q23, h23, hq23, hB23⟩ := hpre
    simp only [frL, Act.put, List.setIfInBounds_toArray, List.set_cons_zero, List.set_cons_succ, Nat.zero_add, Nat.reduceAdd, h23] at hK ⊢
    have HK := Lib.hid hK
    clear hK
    refine Held.mk ?_
    go_simp
    (with_reducible refine (E1.out _ _ (TyRow.blk (t := 25) (xs := [⟨i0, n0, o0⟩, ⟨i1, n1, o1⟩]) ?_)).mono ?_)
    exact hB23
    rintro e w1 ⟨rfl, hb1⟩
    dsimp only
    exact HK.out _ hb1
  -- 25: Op.load 25 (Operand.tmp 5)
  apply ps_val
  · intro x w' hb hpre K hK
    have hc := (bcell hb).1
    clear hpre
    simp only [frL, Act.put, List.setIfInBounds_toArray, List.set_cons_zero, List.set_cons_succ, Nat.zero_add, Nat.reduceAdd] at hK ⊢
    have HK := Lib.hid hK
    clear hK
    refine Held.mk ?_
    go_simp
    exact HK.out _ (Below.refl _ _)
  -- 26: Op.buildSlice 55 2 #[(0, Operand.tmp 56), (1, Operand.tmp 57)]
  refine ps_gen (.row w6.heap.size 2 #[.int .i64 x1, .string x2, .int .i64 x3, .int .i64 i2, .string n2, .int .i64 o2] 25) ?_ ?_
  · intro x w' hb hpre K hK
    have hc := (bcell hb).1
    simp [preds, Region.binds, phi, phiO, MP.val, MP.box, MP.row] at hpre
    simp only [frL, Act.put, List.setIfInBounds_toArray, List.set_cons_zero, List.set_cons_succ, Nat.zero_add, Nat.reduceAdd, hpre] at hK ⊢
    have HK := Lib.hid hK
    clear hK
    refine Held.mk ?_
    go_simp
    exact HK.out _ _ ⟨_, rfl, hb.size, Blk.new _ _ _⟩ ((Below.refl _ _).alloc (Nat.le_refl _) _)
  -- 27: Op.call { callee := Callee.value (Operand.func 11), args := #[Operand.tmp 58], argTypes :=
  apply ps_val
  · intro x w' hb hpre K hK
    have hc := (bcell hb).1
    simp [preds, Region.binds, phi, phiO, MP.val, MP.box, MP.row] at hpre
    obtain ⟨⟨q26, h26, hq26, hB26⟩, hrest⟩ := hpre
    simp only [frL, Act.put, List.setIfInBounds_toArray, List.set_cons_zero, List.set_cons_succ, Nat.zero_add, Nat.reduceAdd, h26, hrest] at hK ⊢
    have HK := Lib.hid hK
    clear hK
    refine Held.mk ?_
    go_simp
    (with_reducible refine (E3.out _ _ (TyRow.blk (t := 25) (xs := [⟨x1, x2, x3⟩, ⟨i2, n2, o2⟩]) ?_)).mono ?_)
    exact hB26
    rintro e w1 ⟨rfl, hb1⟩
    dsimp only
    exact HK.out _ hb1
  -- 28: Op.load 25 (Operand.tmp 3)
  apply ps_val
  · intro x w' hb hpre K hK
    have hc := (bcell hb).1
    clear hpre
    simp only [frL, Act.put, List.setIfInBounds_toArray, List.set_cons_zero, List.set_cons_succ, Nat.zero_add, Nat.reduceAdd] at hK ⊢
    have HK := Lib.hid hK
    clear hK
    refine Held.mk ?_
    go_simp
    exact HK.out _ (Below.refl _ _)
  -- 29: Op.load 25 (Operand.tmp 4)
  apply ps_val
  · intro x w' hb hpre K hK
    have hc := (bcell hb).1
    clear hpre
    simp only [frL, Act.put, List.setIfInBounds_toArray, List.set_cons_zero, List.set_cons_succ, Nat.zero_add, Nat.reduceAdd] at hK ⊢
    have HK := Lib.hid hK
    clear hK
    refine Held.mk ?_
    go_simp
    exact HK.out _ (Below.refl _ _)
  -- 30: Op.load 25 (Operand.tmp 5)
  apply ps_val
  · intro x w' hb hpre K hK
    have hc := (bcell hb).1
    clear hpre
    simp only [frL, Act.put, List.setIfInBounds_toArray, List.set_cons_zero, List.set_cons_succ, Nat.zero_add, Nat.reduceAdd] at hK ⊢
    have HK := Lib.hid hK
    clear hK
    refine Held.mk ?_
    go_simp
    exact HK.out _ (Below.refl _ _)
  -- 31: Op.buildSlice 55 2 #[(0, Operand.tmp 61), (1, Operand.tmp 62)]
  refine ps_gen (.row w6.heap.size 2 #[.int .i64 i1, .string n1, .int .i64 o1, .int .i64 i2, .string n2, .int .i64 o2] 25) ?_ ?_
  · intro x w' hb hpre K hK
    have hc := (bcell hb).1
    simp [preds, Region.binds, phi, phiO, MP.val, MP.box, MP.row] at hpre
    simp only [frL, Act.put, List.setIfInBounds_toArray, List.set_cons_zero, List.set_cons_succ, Nat.zero_add, Nat.reduceAdd, hpre] at hK ⊢
    have HK := Lib.hid hK
    clear hK
    refine Held.mk ?_
    go_simp
    exact HK.out _ _ ⟨_, rfl, hb.size, Blk.new _ _ _⟩ ((Below.refl _ _).alloc (Nat.le_refl _) _)
  -- 32: Op.call { callee := Callee.value (Operand.func 11), args := #[Operand.tmp 63], argTypes :=
  apply ps_val
  · intro x w' hb hpre K hK
    have hc := (bcell hb).1
    simp [preds, Region.binds, phi, phiO, MP.val, MP.box, MP.row] at hpre
    obtain ⟨⟨q31, h31, hq31, hB31⟩, hrest⟩ := hpre
    simp only [frL, Act.put, List.setIfInBounds_toArray, List.set_cons_zero, List.set_cons_succ, Nat.zero_add, Nat.reduceAdd, h31, hrest] at hK ⊢
    have HK := Lib.hid hK
    clear hK
    refine Held.mk ?_
    go_simp
    (with_reducible refine (E4.out _ _ (TyRow.blk (t := 25) (xs := [⟨i1, n1, o1⟩, ⟨i2, n2, o2⟩]) ?_)).mono ?_)
    exact hB31
    rintro e w1 ⟨rfl, hb1⟩
    dsimp only
    exact HK.out _ hb1
  -- 33: Op.buildSlice 55 2 #[(0, Operand.tmp 60), (1, Operand.tmp 64)]
  refine ps_gen (.row w6.heap.size 2 #[.int .i64 i0, .string n0, .int .i64 o0, .int .i64 y1, .string y2, .int .i64 y3] 25) ?_ ?_
  · intro x w' hb hpre K hK
    have hc := (bcell hb).1
    simp [preds, Region.binds, phi, phiO, MP.val, MP.box, MP.row] at hpre
    simp only [frL, Act.put, List.setIfInBounds_toArray, List.set_cons_zero, List.set_cons_succ, Nat.zero_add, Nat.reduceAdd, hpre] at hK ⊢
    have HK := Lib.hid hK
    clear hK
    refine Held.mk ?_
    go_simp
    exact HK.out _ _ ⟨_, rfl, hb.size, Blk.new _ _ _⟩ ((Below.refl _ _).alloc (Nat.le_refl _) _)
  -- 34: Op.call { callee := Callee.value (Operand.func 11), args := #[Operand.tmp 65], argTypes :=
  apply ps_val
  · intro x w' hb hpre K hK
    have hc := (bcell hb).1
    simp [preds, Region.binds, phi, phiO, MP.val, MP.box, MP.row] at hpre
    obtain ⟨⟨q33, h33, hq33, hB33⟩, hrest⟩ := hpre
    simp only [frL, Act.put, List.setIfInBounds_toArray, List.set_cons_zero, List.set_cons_succ, Nat.zero_add, Nat.reduceAdd, h33, hrest] at hK ⊢
    have HK := Lib.hid hK
    clear hK
    refine Held.mk ?_
    go_simp
    (with_reducible refine (E5.out _ _ (TyRow.blk (t := 25) (xs := [⟨i0, n0, o0⟩, ⟨y1, y2, y3⟩]) ?_)).mono ?_)
    exact hB33
    rintro e w1 ⟨rfl, hb1⟩
    dsimp only
    exact HK.out _ hb1
  -- 35: Op.binOp BinOp.eql 25 (Operand.tmp 59) (Operand.tmp 66) 25
  apply ps_val
  · intro x w' hb hpre K hK
    have hc := (bcell hb).1
    simp [preds, Region.binds, phi, phiO, MP.val, MP.box, MP.row] at hpre
    simp only [frL, Act.put, List.setIfInBounds_toArray, List.set_cons_zero, List.set_cons_succ, Nat.zero_add, Nat.reduceAdd, hpre] at hK ⊢
    have HK := Lib.hid hK
    clear hK
    refine Held.mk ?_
    go_simp
    exact HK.out _ (Below.refl _ _)
  -- 36: Op.pick (Operand.tmp 52) (Operand.tmp 67) (Operand.const (Value.bool false))
  apply ps_val
  · intro x w' hb hpre K hK
    have hc := (bcell hb).1
    simp [preds, Region.binds, phi, phiO, MP.val, MP.box, MP.row] at hpre
    simp only [frL, Act.put, List.setIfInBounds_toArray, List.set_cons_zero, List.set_cons_succ, Nat.zero_add, Nat.reduceAdd, hpre] at hK ⊢
    have HK := Lib.hid hK
    clear hK
    refine Held.mk ?_
    go_simp
    exact HK.out _ (Below.refl _ _)
  -- 37: Op.move (Operand.tmp 68)
  apply ps_val
  · intro x w' hb hpre K hK
    have hc := (bcell hb).1
    simp [preds, Region.binds, phi, phiO, MP.val, MP.box, MP.row] at hpre
    simp only [frL, Act.put, List.setIfInBounds_toArray, List.set_cons_zero, List.set_cons_succ, Nat.zero_add, Nat.reduceAdd, hpre] at hK ⊢
    have HK := Lib.hid hK
    clear hK
    refine Held.mk ?_
    go_simp
    exact HK.out _ (Below.refl _ _)
  intro x w' hb hp
  simp only [List.cons_append, List.nil_append, phis, MP.val, MP.box, MP.row, frL, Act.put, List.setIfInBounds_toArray, List.set_cons_zero, List.set_cons_succ, Nat.zero_add, Nat.reduceAdd] at hp ⊢
  obtain ⟨h21, h22, ⟨q23, h23, hq23, hB23⟩, h24, h25, ⟨q26, h26, hq26, hB26⟩, h27, h28, h29, h30, ⟨q31, h31, hq31, hB31⟩, h32, ⟨q33, h33, hq33, hB33⟩, h34, h35, h36, h37, -⟩ := hp
  simp only [h21, h22, h23, h24, h25, h26, h27, h28, h29, h30, h31, h32, h33, h34, h35, h36, h37]
  clear h21 h22 h23 h24 h25 h26 h27 h28 h29 h30 h31 h32 h33 h34 h35 h36 h37
  clear hq23 hB23 hq26 hB26 hq31 hB31 hq33 hB33
  refine part_steps w6 38 55 [some 70, some 71, some 72, some 73, some 74, some 75, some 76, some 77, some 78, some 79, some 80, some 81, some 82, some 83, some 84, some 85, some 86] hb (by kernel_rfl) ?_
  clear hb x w'
  -- 38: Op.load 25 (Operand.tmp 3)
  apply ps_val
  · intro x w' hb hpre K hK
    have hc := (bcell hb).1
    clear hpre
    simp only [frL, Act.put, List.setIfInBounds_toArray, List.set_cons_zero, List.set_cons_succ, Nat.zero_add, Nat.reduceAdd] at hK ⊢
    have HK := Lib.hid hK
    clear hK
    refine Held.mk ?_
    go_simp
    exact HK.out _ (Below.refl _ _)
  -- 39: Op.load 25 (Operand.tmp 4)
  apply ps_val
  · intro x w' hb hpre K hK
    have hc := (bcell hb).1
    clear hpre
    simp only [frL, Act.put, List.setIfInBounds_toArray, List.set_cons_zero, List.set_cons_succ, Nat.zero_add, Nat.reduceAdd] at hK ⊢
    have HK := Lib.hid hK
    clear hK
    refine Held.mk ?_
    go_simp
    exact HK.out _ (Below.refl _ _)
  -- 40: Op.buildSlice 55 2 #[(0, Operand.tmp 70), (1, Operand.tmp 71)]
  refine ps_gen (.row w6.heap.size 2 #[.int .i64 i0, .string n0, .int .i64 o0, .int .i64 i1, .string n1, .int .i64 o1] 25) ?_ ?_
  · intro x w' hb hpre K hK
    have hc := (bcell hb).1
    simp [preds, Region.binds, phi, phiO, MP.val, MP.box, MP.row] at hpre
    simp only [frL, Act.put, List.setIfInBounds_toArray, List.set_cons_zero, List.set_cons_succ, Nat.zero_add, Nat.reduceAdd, hpre] at hK ⊢
    have HK := Lib.hid hK
    clear hK
    refine Held.mk ?_
    go_simp
    exact HK.out _ _ ⟨_, rfl, hb.size, Blk.new _ _ _⟩ ((Below.refl _ _).alloc (Nat.le_refl _) _)
  -- 41: Op.call { callee := Callee.value (Operand.func 12), args := #[Operand.tmp 72], argTypes :=
  apply ps_val
  · intro x w' hb hpre K hK
    have hc := (bcell hb).1
    simp [preds, Region.binds, phi, phiO, MP.val, MP.box, MP.row] at hpre
    obtain ⟨q40, h40, hq40, hB40⟩ := hpre
    simp only [frL, Act.put, List.setIfInBounds_toArray, List.set_cons_zero, List.set_cons_succ, Nat.zero_add, Nat.reduceAdd, h40] at hK ⊢
    have HK := Lib.hid hK
    clear hK
    refine Held.mk ?_
    go_simp
    (with_reducible refine (J1.out _ _ (TyRow.blk (t := 25) (xs := [⟨i0, n0, o0⟩, ⟨i1, n1, o1⟩]) ?_)).mono ?_)
    exact hB40
    rintro e w1 ⟨rfl, hb1⟩
    dsimp only
    exact HK.out _ hb1
  -- 42: Op.load 25 (Operand.tmp 5)
  apply ps_val
  · intro x w' hb hpre K hK
    have hc := (bcell hb).1
    clear hpre
    simp only [frL, Act.put, List.setIfInBounds_toArray, List.set_cons_zero, List.set_cons_succ, Nat.zero_add, Nat.reduceAdd] at hK ⊢
    have HK := Lib.hid hK
    clear hK
    refine Held.mk ?_
    go_simp
    exact HK.out _ (Below.refl _ _)
  -- 43: Op.buildSlice 55 2 #[(0, Operand.tmp 73), (1, Operand.tmp 74)]
  refine ps_gen (.row w6.heap.size 2 #[.int .i64 t1, .string t2, .int .i64 t3, .int .i64 i2, .string n2, .int .i64 o2] 25) ?_ ?_
  · intro x w' hb hpre K hK
    have hc := (bcell hb).1
    simp [preds, Region.binds, phi, phiO, MP.val, MP.box, MP.row] at hpre
    simp only [frL, Act.put, List.setIfInBounds_toArray, List.set_cons_zero, List.set_cons_succ, Nat.zero_add, Nat.reduceAdd, hpre] at hK ⊢
    have HK := Lib.hid hK
    clear hK
    refine Held.mk ?_
    go_simp
    exact HK.out _ _ ⟨_, rfl, hb.size, Blk.new _ _ _⟩ ((Below.refl _ _).alloc (Nat.le_refl _) _)
  -- 44: Op.call { callee := Callee.value (Operand.func 12), args := #[Operand.tmp 75], argTypes :=
  apply ps_val
  · intro x w' hb hpre K hK
    have hc := (bcell hb).1
    simp [preds, Region.binds, phi, phiO, MP.val, MP.box, MP.row] at hpre
    obtain ⟨⟨q43, h43, hq43, hB43⟩, hrest⟩ := hpre
    simp only [frL, Act.put, List.setIfInBounds_toArray, List.set_cons_zero, List.set_cons_succ, Nat.zero_add, Nat.reduceAdd, h43, hrest] at hK ⊢
    have HK := Lib.hid hK
    clear hK
    refine Held.mk ?_
    go_simp
    (with_reducible refine (J3.out _ _ (TyRow.blk (t := 25) (xs := [⟨t1, t2, t3⟩, ⟨i2, n2, o2⟩]) ?_)).mono ?_)
    exact hB43
    rintro e w1 ⟨rfl, hb1⟩
    dsimp only
    exact HK.out _ hb1
  -- 45: Op.load 25 (Operand.tmp 3)
  apply ps_val
  · intro x w' hb hpre K hK
    have hc := (bcell hb).1
    clear hpre
    simp only [frL, Act.put, List.setIfInBounds_toArray, List.set_cons_zero, List.set_cons_succ, Nat.zero_add, Nat.reduceAdd] at hK ⊢
    have HK := Lib.hid hK
    clear hK
    refine Held.mk ?_
    go_simp
    exact HK.out _ (Below.refl _ _)
  -- 46: Op.load 25 (Operand.tmp 4)
  apply ps_val
  · intro x w' hb hpre K hK
    have hc := (bcell hb).1
    clear hpre
    simp only [frL, Act.put, List.setIfInBounds_toArray, List.set_cons_zero, List.set_cons_succ, Nat.zero_add, Nat.reduceAdd] at hK ⊢
    have HK := Lib.hid hK
    clear hK
    refine Held.mk ?_
    go_simp
    exact HK.out _ (Below.refl _ _)
  -- 47: Op.load 25 (Operand.tmp 5)
  apply ps_val
  · intro x w' hb hpre K hK
    have hc := (bcell hb).1
    clear hpre
    simp only [frL, Act.put, List.setIfInBounds_toArray, List.set_cons_zero, List.set_cons_succ, Nat.zero_add, Nat.reduceAdd] at hK ⊢
    have HK := Lib.hid hK
    clear hK
    refine Held.mk ?_
    go_simp
    exact HK.out _ (Below.refl _ _)
  -- 48: Op.buildSlice 55 2 #[(0, Operand.tmp 78), (1, Operand.tmp 79)]
  refine ps_gen (.row w6.heap.size 2 #[.int .i64 i1, .string n1, .int .i64 o1, .int .i64 i2, .string n2, .int .i64 o2] 25) ?_ ?_
  · intro x w' hb hpre K hK
    have hc := (bcell hb).1
    simp [preds, Region.binds, phi, phiO, MP.val, MP.box, MP.row] at hpre
    simp only [frL, Act.put, List.setIfInBounds_toArray, List.set_cons_zero, List.set_cons_succ, Nat.zero_add, Nat.reduceAdd, hpre] at hK ⊢
    have HK := Lib.hid hK
    clear hK
    refine Held.mk ?_
    go_simp
    exact HK.out _ _ ⟨_, rfl, hb.size, Blk.new _ _ _⟩ ((Below.refl _ _).alloc (Nat.le_refl _) _)
  -- 49: Op.call { callee := Callee.value (Operand.func 12), args := #[Operand.tmp 80], argTypes :=
  apply ps_val
  · intro x w' hb hpre K hK
    have hc := (bcell hb).1
    simp [preds, Region.binds, phi, phiO, MP.val, MP.box, MP.row] at hpre
    obtain ⟨⟨q48, h48, hq48, hB48⟩, hrest⟩ := hpre
    simp only [frL, Act.put, List.setIfInBounds_toArray, List.set_cons_zero, List.set_cons_succ, Nat.zero_add, Nat.reduceAdd, h48, hrest] at hK ⊢
    have HK := Lib.hid hK
    clear hK
    refine Held.mk ?_
    go_simp
    (with_reducible refine (J4.out _ _ (TyRow.blk (t := 25) (xs := [⟨i1, n1, o1⟩, ⟨i2, n2, o2⟩]) ?_)).mono ?_)
    exact hB48
    rintro e w1 ⟨rfl, hb1⟩
    dsimp only
    exact HK.out _ hb1
  -- 50: Op.buildSlice 55 2 #[(0, Operand.tmp 77), (1, Operand.tmp 81)]
  refine ps_gen (.row w6.heap.size 2 #[.int .i64 i0, .string n0, .int .i64 o0, .int .i64 u1, .string u2, .int .i64 u3] 25) ?_ ?_
  · intro x w' hb hpre K hK
    have hc := (bcell hb).1
    simp [preds, Region.binds, phi, phiO, MP.val, MP.box, MP.row] at hpre
    simp only [frL, Act.put, List.setIfInBounds_toArray, List.set_cons_zero, List.set_cons_succ, Nat.zero_add, Nat.reduceAdd, hpre] at hK ⊢
    have HK := Lib.hid hK
    clear hK
    refine Held.mk ?_
    go_simp
    exact HK.out _ _ ⟨_, rfl, hb.size, Blk.new _ _ _⟩ ((Below.refl _ _).alloc (Nat.le_refl _) _)
  -- 51: Op.call { callee := Callee.value (Operand.func 12), args := #[Operand.tmp 82], argTypes :=
  apply ps_val
  · intro x w' hb hpre K hK
    have hc := (bcell hb).1
    simp [preds, Region.binds, phi, phiO, MP.val, MP.box, MP.row] at hpre
    obtain ⟨⟨q50, h50, hq50, hB50⟩, hrest⟩ := hpre
    simp only [frL, Act.put, List.setIfInBounds_toArray, List.set_cons_zero, List.set_cons_succ, Nat.zero_add, Nat.reduceAdd, h50, hrest] at hK ⊢
    have HK := Lib.hid hK
    clear hK
    refine Held.mk ?_
    go_simp
    (with_reducible refine (J5.out _ _ (TyRow.blk (t := 25) (xs := [⟨i0, n0, o0⟩, ⟨u1, u2, u3⟩]) ?_)).mono ?_)
    exact hB50
    rintro e w1 ⟨rfl, hb1⟩
    dsimp only
    exact HK.out _ hb1
  -- 52: Op.binOp BinOp.eql 25 (Operand.tmp 76) (Operand.tmp 83) 25
  apply ps_val
  · intro x w' hb hpre K hK
    have hc := (bcell hb).1
    simp [preds, Region.binds, phi, phiO, MP.val, MP.box, MP.row] at hpre
    simp only [frL, Act.put, List.setIfInBounds_toArray, List.set_cons_zero, List.set_cons_succ, Nat.zero_add, Nat.reduceAdd, hpre] at hK ⊢
    have HK := Lib.hid hK
    clear hK
    refine Held.mk ?_
    go_simp
    exact HK.out _ (Below.refl _ _)
  -- 53: Op.pick (Operand.tmp 69) (Operand.tmp 84) (Operand.const (Value.bool false))
  apply ps_val
  · intro x w' hb hpre K hK
    have hc := (bcell hb).1
    simp [preds, Region.binds, phi, phiO, MP.val, MP.box, MP.row] at hpre
    simp only [frL, Act.put, List.setIfInBounds_toArray, List.set_cons_zero, List.set_cons_succ, Nat.zero_add, Nat.reduceAdd, hpre] at hK ⊢
    have HK := Lib.hid hK
    clear hK
    refine Held.mk ?_
    go_simp
    exact HK.out _ (Below.refl _ _)
  -- 54: Op.move (Operand.tmp 85)
  apply ps_val
  · intro x w' hb hpre K hK
    have hc := (bcell hb).1
    simp [preds, Region.binds, phi, phiO, MP.val, MP.box, MP.row] at hpre
    simp only [frL, Act.put, List.setIfInBounds_toArray, List.set_cons_zero, List.set_cons_succ, Nat.zero_add, Nat.reduceAdd, hpre] at hK ⊢
    have HK := Lib.hid hK
    clear hK
    refine Held.mk ?_
    go_simp
    exact HK.out _ (Below.refl _ _)
  intro x w' hb hp
  simp only [List.cons_append, List.nil_append, phis, MP.val, MP.box, MP.row, frL, Act.put, List.setIfInBounds_toArray, List.set_cons_zero, List.set_cons_succ, Nat.zero_add, Nat.reduceAdd] at hp ⊢
  obtain ⟨h38, h39, ⟨q40, h40, hq40, hB40⟩, h41, h42, ⟨q43, h43, hq43, hB43⟩, h44, h45, h46, h47, ⟨q48, h48, hq48, hB48⟩, h49, ⟨q50, h50, hq50, hB50⟩, h51, h52, h53, h54, -⟩ := hp
  simp only [h38, h39, h40, h41, h42, h43, h44, h45, h46, h47, h48, h49, h50, h51, h52, h53, h54]
  clear h38 h39 h40 h41 h42 h43 h44 h45 h46 h47 h48 h49 h50 h51 h52 h53 h54
  clear hq40 hB40 hq43 hB43 hq48 hB48 hq50 hB50
  refine part_steps w6 55 62 [some 87, some 88, some 89, some 90, some 91, some 92, some 93] hb (by kernel_rfl) ?_
  clear hb x w'
  -- 55: Op.load 25 (Operand.tmp 7)
  apply ps_val
  · intro x w' hb hpre K hK
    have hc := (bcell hb).1
    clear hpre
    simp only [frL, Act.put, List.setIfInBounds_toArray, List.set_cons_zero, List.set_cons_succ, Nat.zero_add, Nat.reduceAdd] at hK ⊢
    have HK := Lib.hid hK
    clear hK
    refine Held.mk ?_
    go_simp
    exact HK.out _ (Below.refl _ _)
  -- 56: Op.load 25 (Operand.tmp 3)
  apply ps_val
  · intro x w' hb hpre K hK
    have hc := (bcell hb).1
    clear hpre
    simp only [frL, Act.put, List.setIfInBounds_toArray, List.set_cons_zero, List.set_cons_succ, Nat.zero_add, Nat.reduceAdd] at hK ⊢
    have HK := Lib.hid hK
    clear hK
    refine Held.mk ?_
    go_simp
    exact HK.out _ (Below.refl _ _)
  -- 57: Op.call { callee := Callee.value (Operand.func 16), args := #[Operand.tmp 87, Operand.tmp 
  apply ps_val
  · intro x w' hb hpre K hK
    have hc := (bcell hb).1
    simp [preds, Region.binds, phi, phiO, MP.val, MP.box, MP.row] at hpre
    simp only [frL, Act.put, List.setIfInBounds_toArray, List.set_cons_zero, List.set_cons_succ, Nat.zero_add, Nat.reduceAdd, hpre] at hK ⊢
    have HK := Lib.hid hK
    clear hK
    refine Held.mk ?_
    go_simp
    (with_reducible refine (CT.out _).mono ?_)
    rintro e w1 ⟨rfl, hb1⟩
    dsimp only
    exact HK.out _ hb1
  -- 58: Op.load 25 (Operand.tmp 8)
  apply ps_val
  · intro x w' hb hpre K hK
    have hc := (bcell hb).1
    clear hpre
    simp only [frL, Act.put, List.setIfInBounds_toArray, List.set_cons_zero, List.set_cons_succ, Nat.zero_add, Nat.reduceAdd] at hK ⊢
    have HK := Lib.hid hK
    clear hK
    refine Held.mk ?_
    go_simp
    exact HK.out _ (Below.refl _ _)
  -- 59: Op.binOp BinOp.eql 25 (Operand.tmp 89) (Operand.tmp 90) 25
  apply ps_val
  · intro x w' hb hpre K hK
    have hc := (bcell hb).1
    simp [preds, Region.binds, phi, phiO, MP.val, MP.box, MP.row] at hpre
    simp only [frL, Act.put, List.setIfInBounds_toArray, List.set_cons_zero, List.set_cons_succ, Nat.zero_add, Nat.reduceAdd, hpre] at hK ⊢
    have HK := Lib.hid hK
    clear hK
    refine Held.mk ?_
    go_simp
    exact HK.out _ (Below.refl _ _)
  -- 60: Op.pick (Operand.tmp 86) (Operand.tmp 91) (Operand.const (Value.bool false))
  apply ps_val
  · intro x w' hb hpre K hK
    have hc := (bcell hb).1
    simp [preds, Region.binds, phi, phiO, MP.val, MP.box, MP.row] at hpre
    simp only [frL, Act.put, List.setIfInBounds_toArray, List.set_cons_zero, List.set_cons_succ, Nat.zero_add, Nat.reduceAdd, hpre] at hK ⊢
    have HK := Lib.hid hK
    clear hK
    refine Held.mk ?_
    go_simp
    exact HK.out _ (Below.refl _ _)
  -- 61: Op.move (Operand.tmp 92)
  apply ps_val
  · intro x w' hb hpre K hK
    have hc := (bcell hb).1
    simp [preds, Region.binds, phi, phiO, MP.val, MP.box, MP.row] at hpre
    simp only [frL, Act.put, List.setIfInBounds_toArray, List.set_cons_zero, List.set_cons_succ, Nat.zero_add, Nat.reduceAdd, hpre] at hK ⊢
    have HK := Lib.hid hK
    clear hK
    refine Held.mk ?_
    go_simp
    exact HK.out _ (Below.refl _ _)
  intro x w' hb hp
  simp only [List.cons_append, List.nil_append, phis, MP.val, MP.box, MP.row, frL, Act.put, List.setIfInBounds_toArray, List.set_cons_zero, List.set_cons_succ, Nat.zero_add, Nat.reduceAdd] at hp ⊢
  obtain ⟨h55, h56, h57, h58, h59, h60, h61, -⟩ := hp
  simp only [h55, h56, h57, h58, h59, h60, h61]
  clear h55 h56 h57 h58 h59 h60 h61
  clear E1 E2 E3 E4 E5 J1 J2 J3 J4 J5 CT
  rcases GI.out with hS | ⟨hi, hne, hS⟩
  case inl =>
    simp only [T3.mk.injEq] at hS
    obtain ⟨rfl, rfl, rfl⟩ := hS
    refine part_steps w6 62 77 [some 94, some 95, some 96, some 97, some 98, some 99, some 100, some 101, some 102, some 103, some 104, some 105, some 106, some 107, some 108] hb (by kernel_rfl) ?_
    clear hb x w'
    -- 62: Op.load 25 (Operand.tmp 8)
    apply ps_val
    · intro x w' hb hpre K hK
      have hc := (bcell hb).1
      clear hpre
      simp only [frL, Act.put, List.setIfInBounds_toArray, List.set_cons_zero, List.set_cons_succ, Nat.zero_add, Nat.reduceAdd] at hK ⊢
      have HK := Lib.hid hK
      clear hK
      refine Held.mk ?_
      go_simp
      exact HK.out _ (Below.refl _ _)
    -- 63: Op.load 25 (Operand.tmp 3)
    apply ps_val
    · intro x w' hb hpre K hK
      have hc := (bcell hb).1
      clear hpre
      simp only [frL, Act.put, List.setIfInBounds_toArray, List.set_cons_zero, List.set_cons_succ, Nat.zero_add, Nat.reduceAdd] at hK ⊢
      have HK := Lib.hid hK
      clear hK
      refine Held.mk ?_
      go_simp
      exact HK.out _ (Below.refl _ _)
    -- 64: Op.binOp BinOp.eql 25 (Operand.tmp 94) (Operand.tmp 95) 25
    apply ps_val
    · intro x w' hb hpre K hK
      have hc := (bcell hb).1
      simp [preds, Region.binds, phi, phiO, MP.val, MP.box, MP.row] at hpre
      simp only [frL, Act.put, List.setIfInBounds_toArray, List.set_cons_zero, List.set_cons_succ, Nat.zero_add, Nat.reduceAdd, hpre] at hK ⊢
      have HK := Lib.hid hK
      clear hK
      refine Held.mk ?_
      go_simp
      exact HK.out _ (Below.refl _ _)
    -- 65: Op.move (Operand.tmp 96)
    apply ps_val
    · intro x w' hb hpre K hK
      have hc := (bcell hb).1
      simp [preds, Region.binds, phi, phiO, MP.val, MP.box, MP.row] at hpre
      simp only [frL, Act.put, List.setIfInBounds_toArray, List.set_cons_zero, List.set_cons_succ, Nat.zero_add, Nat.reduceAdd, hpre] at hK ⊢
      have HK := Lib.hid hK
      clear hK
      refine Held.mk ?_
      go_simp
      exact HK.out _ (Below.refl _ _)
    -- 66: Op.fieldAddr 25 (Operand.tmp 3) 0
    apply ps_val
    · intro x w' hb hpre K hK
      have hc := (bcell hb).1
      simp [preds, Region.binds, phi, phiO, MP.val, MP.box, MP.row] at hpre
      simp only [frL, Act.put, List.setIfInBounds_toArray, List.set_cons_zero, List.set_cons_succ, Nat.zero_add, Nat.reduceAdd, hpre] at hK ⊢
      have HK := Lib.hid hK
      clear hK
      refine Held.mk ?_
      go_simp
      exact HK.out _ (Below.refl _ _)
    -- 67: Op.load 22 (Operand.tmp 98)
    apply ps_val
    · intro x w' hb hpre K hK
      have hc := (bcell hb).1
      simp [preds, Region.binds, phi, phiO, MP.val, MP.box, MP.row] at hpre
      simp only [frL, Act.put, List.setIfInBounds_toArray, List.set_cons_zero, List.set_cons_succ, Nat.zero_add, Nat.reduceAdd, hpre] at hK ⊢
      have HK := Lib.hid hK
      clear hK
      refine Held.mk ?_
      go_simp
      exact HK.out _ (Below.refl _ _)
    -- 68: Op.binOp BinOp.eql 22 (Operand.tmp 99) (Operand.const (Value.int IntKind.i64 0)) 22
    apply ps_val
    · intro x w' hb hpre K hK
      have hc := (bcell hb).1
      simp [preds, Region.binds, phi, phiO, MP.val, MP.box, MP.row] at hpre
      simp only [frL, Act.put, List.setIfInBounds_toArray, List.set_cons_zero, List.set_cons_succ, Nat.zero_add, Nat.reduceAdd, hpre] at hK ⊢
      have HK := Lib.hid hK
      clear hK
      refine Held.mk ?_
      go_simp
      exact HK.out _ (Below.refl _ _)
    -- 69: Op.move (Operand.tmp 100)
    apply ps_val
    · intro x w' hb hpre K hK
      have hc := (bcell hb).1
      simp [preds, Region.binds, phi, phiO, MP.val, MP.box, MP.row] at hpre
      simp only [frL, Act.put, List.setIfInBounds_toArray, List.set_cons_zero, List.set_cons_succ, Nat.zero_add, Nat.reduceAdd, hpre] at hK ⊢
      have HK := Lib.hid hK
      clear hK
      refine Held.mk ?_
      go_simp
      exact HK.out _ (Below.refl _ _)
    -- 70: Op.load 25 (Operand.tmp 8)
    apply ps_val
    · intro x w' hb hpre K hK
      have hc := (bcell hb).1
      simp [preds, Region.binds, phi, phiO, MP.val, MP.box, MP.row] at hpre
      simp only [frL, Act.put, List.setIfInBounds_toArray, List.set_cons_zero, List.set_cons_succ, Nat.zero_add, Nat.reduceAdd, hpre] at hK ⊢
      have HK := Lib.hid hK
      clear hK
      refine Held.mk ?_
      go_simp
      exact HK.out _ (Below.refl _ _)
    -- 71: Op.build 25 #[(0, Operand.const (Value.int IntKind.i64 0)), (2, Operand.const (Value.int I
    apply ps_val
    · intro x w' hb hpre K hK
      have hc := (bcell hb).1
      simp [preds, Region.binds, phi, phiO, MP.val, MP.box, MP.row] at hpre
      simp only [frL, Act.put, List.setIfInBounds_toArray, List.set_cons_zero, List.set_cons_succ, Nat.zero_add, Nat.reduceAdd, hpre] at hK ⊢
      have HK := Lib.hid hK
      clear hK
      refine Held.mk ?_
      go_simp
      exact HK.out _ (Below.refl _ _)
    -- 72: Op.binOp BinOp.eql 25 (Operand.tmp 102) (Operand.tmp 103) 25
    apply ps_val
    · intro x w' hb hpre K hK
      have hc := (bcell hb).1
      simp [preds, Region.binds, phi, phiO, MP.val, MP.box, MP.row] at hpre
      simp only [frL, Act.put, List.setIfInBounds_toArray, List.set_cons_zero, List.set_cons_succ, Nat.zero_add, Nat.reduceAdd, hpre] at hK ⊢
      have HK := Lib.hid hK
      clear hK
      refine Held.mk ?_
      go_simp
      exact HK.out _ (Below.refl _ _)
    -- 73: Op.pick (Operand.tmp 101) (Operand.tmp 104) (Operand.const (Value.bool false))
    apply ps_val
    · intro x w' hb hpre K hK
      have hc := (bcell hb).1
      simp [preds, Region.binds, phi, phiO, MP.val, MP.box, MP.row] at hpre
      simp only [frL, Act.put, List.setIfInBounds_toArray, List.set_cons_zero, List.set_cons_succ, Nat.zero_add, Nat.reduceAdd, hpre] at hK ⊢
      have HK := Lib.hid hK
      clear hK
      refine Held.mk ?_
      go_simp
      exact HK.out _ (Below.refl _ _)
    -- 74: Op.pick (Operand.tmp 97) (Operand.const (Value.bool true)) (Operand.tmp 105)
    apply ps_val
    · intro x w' hb hpre K hK
      have hc := (bcell hb).1
      simp [preds, Region.binds, phi, phiO, MP.val, MP.box, MP.row] at hpre
      simp only [frL, Act.put, List.setIfInBounds_toArray, List.set_cons_zero, List.set_cons_succ, Nat.zero_add, Nat.reduceAdd, hpre] at hK ⊢
      have HK := Lib.hid hK
      clear hK
      refine Held.mk ?_
      go_simp
      exact HK.out _ (Below.refl _ _)
    -- 75: Op.pick (Operand.tmp 93) (Operand.tmp 106) (Operand.const (Value.bool false))
    apply ps_val
    · intro x w' hb hpre K hK
      have hc := (bcell hb).1
      simp [preds, Region.binds, phi, phiO, MP.val, MP.box, MP.row] at hpre
      simp only [frL, Act.put, List.setIfInBounds_toArray, List.set_cons_zero, List.set_cons_succ, Nat.zero_add, Nat.reduceAdd, hpre] at hK ⊢
      have HK := Lib.hid hK
      clear hK
      refine Held.mk ?_
      go_simp
      exact HK.out _ (Below.refl _ _)
    -- 76: Op.move (Operand.tmp 107)
    apply ps_val
    · intro x w' hb hpre K hK
      have hc := (bcell hb).1
      simp [preds, Region.binds, phi, phiO, MP.val, MP.box, MP.row] at hpre
      simp only [frL, Act.put, List.setIfInBounds_toArray, List.set_cons_zero, List.set_cons_succ, Nat.zero_add, Nat.reduceAdd, hpre] at hK ⊢
      have HK := Lib.hid hK
      clear hK
      refine Held.mk ?_
      go_simp
      exact HK.out _ (Below.refl _ _)
    intro x w' hb hp
    simp only [List.cons_append, List.nil_append, phis, MP.val, MP.box, MP.row, frL, Act.put, List.setIfInBounds_toArray, List.set_cons_zero, List.set_cons_succ, Nat.zero_add, Nat.reduceAdd] at hp ⊢
    obtain ⟨h62, h63, h64, h65, h66, h67, h68, h69, h70, h71, h72, h73, h74, h75, h76, -⟩ := hp
    simp only [h62, h63, h64, h65, h66, h67, h68, h69, h70, h71, h72, h73, h74, h75, h76]
    clear h62 h63 h64 h65 h66 h67 h68 h69 h70 h71 h72 h73 h74 h75 h76
    refine part_steps w6 77 82 [some 109, some 110, some 111, some 112, some 113] hb (by kernel_rfl) ?_
    clear hb x w'
    -- 77: Op.load 25 (Operand.tmp 3)
    apply ps_val
    · intro x w' hb hpre K hK
      have hc := (bcell hb).1
      clear hpre
      simp only [frL, Act.put, List.setIfInBounds_toArray, List.set_cons_zero, List.set_cons_succ, Nat.zero_add, Nat.reduceAdd] at hK ⊢
      have HK := Lib.hid hK
      clear hK
      refine Held.mk ?_
      go_simp
      exact HK.out _ (Below.refl _ _)
    -- 78: Op.load 25 (Operand.tmp 8)
    apply ps_val
    · intro x w' hb hpre K hK
      have hc := (bcell hb).1
      clear hpre
      simp only [frL, Act.put, List.setIfInBounds_toArray, List.set_cons_zero, List.set_cons_succ, Nat.zero_add, Nat.reduceAdd] at hK ⊢
      have HK := Lib.hid hK
      clear hK
      refine Held.mk ?_
      go_simp
      exact HK.out _ (Below.refl _ _)
    -- 79: Op.call { callee := Callee.value (Operand.func 14), args := #[Operand.tmp 109, Operand.tmp
    apply ps_val
    · intro x w' hb hpre K hK
      have hc := (bcell hb).1
      simp [preds, Region.binds, phi, phiO, MP.val, MP.box, MP.row] at hpre
      simp only [frL, Act.put, List.setIfInBounds_toArray, List.set_cons_zero, List.set_cons_succ, Nat.zero_add, Nat.reduceAdd, hpre] at hK ⊢
      have HK := Lib.hid hK
      clear hK
      refine Held.mk ?_
      go_simp
      (with_reducible refine (CU.out _).mono ?_)
      rintro e w1 ⟨rfl, hb1⟩
      dsimp only
      exact HK.out _ hb1
    -- 80: Op.pick (Operand.tmp 108) (Operand.tmp 111) (Operand.const (Value.bool false))
    apply ps_val
    · intro x w' hb hpre K hK
      have hc := (bcell hb).1
      simp [preds, Region.binds, phi, phiO, MP.val, MP.box, MP.row] at hpre
      simp only [frL, Act.put, List.setIfInBounds_toArray, List.set_cons_zero, List.set_cons_succ, Nat.zero_add, Nat.reduceAdd, hpre] at hK ⊢
      have HK := Lib.hid hK
      clear hK
      refine Held.mk ?_
      go_simp
      exact HK.out _ (Below.refl _ _)
    -- 81: Op.move (Operand.tmp 112)
    apply ps_val
    · intro x w' hb hpre K hK
      have hc := (bcell hb).1
      simp [preds, Region.binds, phi, phiO, MP.val, MP.box, MP.row] at hpre
      simp only [frL, Act.put, List.setIfInBounds_toArray, List.set_cons_zero, List.set_cons_succ, Nat.zero_add, Nat.reduceAdd, hpre] at hK ⊢
      have HK := Lib.hid hK
      clear hK
      refine Held.mk ?_
      go_simp
      exact HK.out _ (Below.refl _ _)
    intro x w' hb hp
    simp only [List.cons_append, List.nil_append, phis, MP.val, MP.box, MP.row, frL, Act.put, List.setIfInBounds_toArray, List.set_cons_zero, List.set_cons_succ, Nat.zero_add, Nat.reduceAdd] at hp ⊢
    obtain ⟨h77, h78, h79, h80, h81, -⟩ := hp
    simp only [h77, h78, h79, h80, h81]
    clear h77 h78 h79 h80 h81
    refine part_steps w6 82 86 [some 114, some 115, some 116, some 117] hb (by kernel_rfl) ?_
    clear hb x w'
    -- 82: Op.load 25 (Operand.tmp 8)
    apply ps_val
    · intro x w' hb hpre K hK
      have hc := (bcell hb).1
      clear hpre
      simp only [frL, Act.put, List.setIfInBounds_toArray, List.set_cons_zero, List.set_cons_succ, Nat.zero_add, Nat.reduceAdd] at hK ⊢
      have HK := Lib.hid hK
      clear hK
      refine Held.mk ?_
      go_simp
      exact HK.out _ (Below.refl _ _)
    -- 83: Op.load 25 (Operand.tmp 3)
    apply ps_val
    · intro x w' hb hpre K hK
      have hc := (bcell hb).1
      clear hpre
      simp only [frL, Act.put, List.setIfInBounds_toArray, List.set_cons_zero, List.set_cons_succ, Nat.zero_add, Nat.reduceAdd] at hK ⊢
      have HK := Lib.hid hK
      clear hK
      refine Held.mk ?_
      go_simp
      exact HK.out _ (Below.refl _ _)
    -- 84: Op.call { callee := Callee.value (Operand.func 14), args := #[Operand.tmp 114, Operand.tmp
    apply ps_val
    · intro x w' hb hpre K hK
      have hc := (bcell hb).1
      simp [preds, Region.binds, phi, phiO, MP.val, MP.box, MP.row] at hpre
      simp only [frL, Act.put, List.setIfInBounds_toArray, List.set_cons_zero, List.set_cons_succ, Nat.zero_add, Nat.reduceAdd, hpre] at hK ⊢
      have HK := Lib.hid hK
      clear hK
      refine Held.mk ?_
      go_simp
      (with_reducible refine (CV.out _).mono ?_)
      rintro e w1 ⟨rfl, hb1⟩
      dsimp only
      exact HK.out _ hb1
    -- 85: Op.pick (Operand.tmp 113) (Operand.tmp 116) (Operand.const (Value.bool false))
    apply ps_val
    · intro x w' hb hpre K hK
      have hc := (bcell hb).1
      simp [preds, Region.binds, phi, phiO, MP.val, MP.box, MP.row] at hpre
      simp only [frL, Act.put, List.setIfInBounds_toArray, List.set_cons_zero, List.set_cons_succ, Nat.zero_add, Nat.reduceAdd, hpre] at hK ⊢
      have HK := Lib.hid hK
      clear hK
      refine Held.mk ?_
      go_simp
      exact HK.out _ (Below.refl _ _)
    intro x w' hb hp
    simp only [List.cons_append, List.nil_append, phis, MP.val, MP.box, MP.row, frL, Act.put, List.setIfInBounds_toArray, List.set_cons_zero, List.set_cons_succ, Nat.zero_add, Nat.reduceAdd] at hp ⊢
    obtain ⟨h82, h83, h84, h85, -⟩ := hp
    simp only [h82, h83, h84, h85]
    clear h82 h83 h84 h85
    refine parts_tail (by kernel_rfl) ?_
    go_wp2_with fail
    go_light
    go_ret
    exact ⟨rfl, W6.trans (hb.mono W6.size)⟩
  case inr =>
  have hn0 : n0 = ⟨#[]⟩ := by
    rcases GN.out with h | h | h
    · exact em_eq h
    · (try simp only at h); omega
    · (try simp only at h); omega
  (try simp only at hi)
  subst hi
  subst hn0
  simp only [T3.mk.injEq] at hS
  obtain ⟨rfl, rfl, rfl⟩ := hS
  have ne : ¬ (3 : Int) = o0 := fun h => hne (by rw [h])
  clear hne
  refine part_steps w6 62 77 [some 94, some 95, some 96, some 97, some 98, some 99, some 100, some 101, some 102, some 103, some 104, some 105, some 106, some 107, some 108] hb (by kernel_rfl) ?_
  clear hb x w'
  -- 62: Op.load 25 (Operand.tmp 8)
  apply ps_val
  · intro x w' hb hpre K hK
    have hc := (bcell hb).1
    clear hpre
    simp only [frL, Act.put, List.setIfInBounds_toArray, List.set_cons_zero, List.set_cons_succ, Nat.zero_add, Nat.reduceAdd] at hK ⊢
    have HK := Lib.hid hK
    clear hK
    refine Held.mk ?_
    go_simp
    exact HK.out _ (Below.refl _ _)
  -- 63: Op.load 25 (Operand.tmp 3)
  apply ps_val
  · intro x w' hb hpre K hK
    have hc := (bcell hb).1
    clear hpre
    simp only [frL, Act.put, List.setIfInBounds_toArray, List.set_cons_zero, List.set_cons_succ, Nat.zero_add, Nat.reduceAdd] at hK ⊢
    have HK := Lib.hid hK
    clear hK
    refine Held.mk ?_
    go_simp
    exact HK.out _ (Below.refl _ _)
  -- 64: Op.binOp BinOp.eql 25 (Operand.tmp 94) (Operand.tmp 95) 25
  apply ps_val
  · intro x w' hb hpre K hK
    have hc := (bcell hb).1
    simp [preds, Region.binds, phi, phiO, MP.val, MP.box, MP.row] at hpre
    simp only [frL, Act.put, List.setIfInBounds_toArray, List.set_cons_zero, List.set_cons_succ, Nat.zero_add, Nat.reduceAdd, hpre] at hK ⊢
    have HK := Lib.hid hK
    clear hK
    refine Held.mk ?_
    go_simp
    exact HK.out _ (Below.refl _ _)
  -- 65: Op.move (Operand.tmp 96)
  apply ps_val
  · intro x w' hb hpre K hK
    have hc := (bcell hb).1
    simp [preds, Region.binds, phi, phiO, MP.val, MP.box, MP.row] at hpre
    simp only [frL, Act.put, List.setIfInBounds_toArray, List.set_cons_zero, List.set_cons_succ, Nat.zero_add, Nat.reduceAdd, hpre] at hK ⊢
    have HK := Lib.hid hK
    clear hK
    refine Held.mk ?_
    go_simp
    exact HK.out _ (Below.refl _ _)
  -- 66: Op.fieldAddr 25 (Operand.tmp 3) 0
  apply ps_val
  · intro x w' hb hpre K hK
    have hc := (bcell hb).1
    simp [preds, Region.binds, phi, phiO, MP.val, MP.box, MP.row] at hpre
    simp only [frL, Act.put, List.setIfInBounds_toArray, List.set_cons_zero, List.set_cons_succ, Nat.zero_add, Nat.reduceAdd, hpre] at hK ⊢
    have HK := Lib.hid hK
    clear hK
    refine Held.mk ?_
    go_simp
    exact HK.out _ (Below.refl _ _)
  -- 67: Op.load 22 (Operand.tmp 98)
  apply ps_val
  · intro x w' hb hpre K hK
    have hc := (bcell hb).1
    simp [preds, Region.binds, phi, phiO, MP.val, MP.box, MP.row] at hpre
    simp only [frL, Act.put, List.setIfInBounds_toArray, List.set_cons_zero, List.set_cons_succ, Nat.zero_add, Nat.reduceAdd, hpre] at hK ⊢
    have HK := Lib.hid hK
    clear hK
    refine Held.mk ?_
    go_simp
    exact HK.out _ (Below.refl _ _)
  -- 68: Op.binOp BinOp.eql 22 (Operand.tmp 99) (Operand.const (Value.int IntKind.i64 0)) 22
  apply ps_val
  · intro x w' hb hpre K hK
    have hc := (bcell hb).1
    simp [preds, Region.binds, phi, phiO, MP.val, MP.box, MP.row] at hpre
    simp only [frL, Act.put, List.setIfInBounds_toArray, List.set_cons_zero, List.set_cons_succ, Nat.zero_add, Nat.reduceAdd, hpre] at hK ⊢
    have HK := Lib.hid hK
    clear hK
    refine Held.mk ?_
    go_simp
    exact HK.out _ (Below.refl _ _)
  -- 69: Op.move (Operand.tmp 100)
  apply ps_val
  · intro x w' hb hpre K hK
    have hc := (bcell hb).1
    simp [preds, Region.binds, phi, phiO, MP.val, MP.box, MP.row] at hpre
    simp only [frL, Act.put, List.setIfInBounds_toArray, List.set_cons_zero, List.set_cons_succ, Nat.zero_add, Nat.reduceAdd, hpre] at hK ⊢
    have HK := Lib.hid hK
    clear hK
    refine Held.mk ?_
    go_simp
    exact HK.out _ (Below.refl _ _)
  -- 70: Op.load 25 (Operand.tmp 8)
  apply ps_val
  · intro x w' hb hpre K hK
    have hc := (bcell hb).1
    simp [preds, Region.binds, phi, phiO, MP.val, MP.box, MP.row] at hpre
    simp only [frL, Act.put, List.setIfInBounds_toArray, List.set_cons_zero, List.set_cons_succ, Nat.zero_add, Nat.reduceAdd, hpre] at hK ⊢
    have HK := Lib.hid hK
    clear hK
    refine Held.mk ?_
    go_simp
    exact HK.out _ (Below.refl _ _)
  -- 71: Op.build 25 #[(0, Operand.const (Value.int IntKind.i64 0)), (2, Operand.const (Value.int I
  apply ps_val
  · intro x w' hb hpre K hK
    have hc := (bcell hb).1
    simp [preds, Region.binds, phi, phiO, MP.val, MP.box, MP.row] at hpre
    simp only [frL, Act.put, List.setIfInBounds_toArray, List.set_cons_zero, List.set_cons_succ, Nat.zero_add, Nat.reduceAdd, hpre] at hK ⊢
    have HK := Lib.hid hK
    clear hK
    refine Held.mk ?_
    go_simp
    exact HK.out _ (Below.refl _ _)
  -- 72: Op.binOp BinOp.eql 25 (Operand.tmp 102) (Operand.tmp 103) 25
  apply ps_val
  · intro x w' hb hpre K hK
    have hc := (bcell hb).1
    simp [preds, Region.binds, phi, phiO, MP.val, MP.box, MP.row] at hpre
    simp only [frL, Act.put, List.setIfInBounds_toArray, List.set_cons_zero, List.set_cons_succ, Nat.zero_add, Nat.reduceAdd, hpre] at hK ⊢
    have HK := Lib.hid hK
    clear hK
    refine Held.mk ?_
    go_simp
    exact HK.out _ (Below.refl _ _)
  -- 73: Op.pick (Operand.tmp 101) (Operand.tmp 104) (Operand.const (Value.bool false))
  apply ps_val
  · intro x w' hb hpre K hK
    have hc := (bcell hb).1
    simp [preds, Region.binds, phi, phiO, MP.val, MP.box, MP.row] at hpre
    simp only [frL, Act.put, List.setIfInBounds_toArray, List.set_cons_zero, List.set_cons_succ, Nat.zero_add, Nat.reduceAdd, hpre] at hK ⊢
    have HK := Lib.hid hK
    clear hK
    refine Held.mk ?_
    go_simp
    exact HK.out _ (Below.refl _ _)
  -- 74: Op.pick (Operand.tmp 97) (Operand.const (Value.bool true)) (Operand.tmp 105)
  apply ps_val
  · intro x w' hb hpre K hK
    have hc := (bcell hb).1
    simp [preds, Region.binds, phi, phiO, MP.val, MP.box, MP.row] at hpre
    simp only [frL, Act.put, List.setIfInBounds_toArray, List.set_cons_zero, List.set_cons_succ, Nat.zero_add, Nat.reduceAdd, hpre] at hK ⊢
    have HK := Lib.hid hK
    clear hK
    refine Held.mk ?_
    go_simp
    exact HK.out _ (Below.refl _ _)
  -- 75: Op.pick (Operand.tmp 93) (Operand.tmp 106) (Operand.const (Value.bool false))
  apply ps_val
  · intro x w' hb hpre K hK
    have hc := (bcell hb).1
    simp [preds, Region.binds, phi, phiO, MP.val, MP.box, MP.row] at hpre
    simp only [frL, Act.put, List.setIfInBounds_toArray, List.set_cons_zero, List.set_cons_succ, Nat.zero_add, Nat.reduceAdd, hpre] at hK ⊢
    have HK := Lib.hid hK
    clear hK
    refine Held.mk ?_
    go_simp
    exact HK.out _ (Below.refl _ _)
  -- 76: Op.move (Operand.tmp 107)
  apply ps_val
  · intro x w' hb hpre K hK
    have hc := (bcell hb).1
    simp [preds, Region.binds, phi, phiO, MP.val, MP.box, MP.row] at hpre
    simp only [frL, Act.put, List.setIfInBounds_toArray, List.set_cons_zero, List.set_cons_succ, Nat.zero_add, Nat.reduceAdd, hpre] at hK ⊢
    have HK := Lib.hid hK
    clear hK
    refine Held.mk ?_
    go_simp
    exact HK.out _ (Below.refl _ _)
  intro x w' hb hp
  simp only [List.cons_append, List.nil_append, phis, MP.val, MP.box, MP.row, frL, Act.put, List.setIfInBounds_toArray, List.set_cons_zero, List.set_cons_succ, Nat.zero_add, Nat.reduceAdd] at hp ⊢
  obtain ⟨h62, h63, h64, h65, h66, h67, h68, h69, h70, h71, h72, h73, h74, h75, h76, -⟩ := hp
  simp only [h62, h63, h64, h65, h66, h67, h68, h69, h70, h71, h72, h73, h74, h75, h76]
  clear h62 h63 h64 h65 h66 h67 h68 h69 h70 h71 h72 h73 h74 h75 h76
  refine part_steps w6 77 82 [some 109, some 110, some 111, some 112, some 113] hb (by kernel_rfl) ?_
  clear hb x w'
  -- 77: Op.load 25 (Operand.tmp 3)
  apply ps_val
  · intro x w' hb hpre K hK
    have hc := (bcell hb).1
    clear hpre
    simp only [frL, Act.put, List.setIfInBounds_toArray, List.set_cons_zero, List.set_cons_succ, Nat.zero_add, Nat.reduceAdd] at hK ⊢
    have HK := Lib.hid hK
    clear hK
    refine Held.mk ?_
    go_simp
    exact HK.out _ (Below.refl _ _)
  -- 78: Op.load 25 (Operand.tmp 8)
  apply ps_val
  · intro x w' hb hpre K hK
    have hc := (bcell hb).1
    clear hpre
    simp only [frL, Act.put, List.setIfInBounds_toArray, List.set_cons_zero, List.set_cons_succ, Nat.zero_add, Nat.reduceAdd] at hK ⊢
    have HK := Lib.hid hK
    clear hK
    refine Held.mk ?_
    go_simp
    exact HK.out _ (Below.refl _ _)
  -- 79: Op.call { callee := Callee.value (Operand.func 14), args := #[Operand.tmp 109, Operand.tmp
  apply ps_val
  · intro x w' hb hpre K hK
    have hc := (bcell hb).1
    simp [preds, Region.binds, phi, phiO, MP.val, MP.box, MP.row] at hpre
    simp only [frL, Act.put, List.setIfInBounds_toArray, List.set_cons_zero, List.set_cons_succ, Nat.zero_add, Nat.reduceAdd, hpre] at hK ⊢
    have HK := Lib.hid hK
    clear hK
    refine Held.mk ?_
    go_simp
    (with_reducible refine (CU.out _).mono ?_)
    rintro e w1 ⟨rfl, hb1⟩
    dsimp only
    exact HK.out _ hb1
  -- 80: Op.pick (Operand.tmp 108) (Operand.tmp 111) (Operand.const (Value.bool false))
  apply ps_val
  · intro x w' hb hpre K hK
    have hc := (bcell hb).1
    simp [preds, Region.binds, phi, phiO, MP.val, MP.box, MP.row] at hpre
    simp only [frL, Act.put, List.setIfInBounds_toArray, List.set_cons_zero, List.set_cons_succ, Nat.zero_add, Nat.reduceAdd, hpre] at hK ⊢
    have HK := Lib.hid hK
    clear hK
    refine Held.mk ?_
    go_simp
    exact HK.out _ (Below.refl _ _)
  -- 81: Op.move (Operand.tmp 112)
  apply ps_val
  · intro x w' hb hpre K hK
    have hc := (bcell hb).1
    simp [preds, Region.binds, phi, phiO, MP.val, MP.box, MP.row] at hpre
    simp only [frL, Act.put, List.setIfInBounds_toArray, List.set_cons_zero, List.set_cons_succ, Nat.zero_add, Nat.reduceAdd, hpre] at hK ⊢
    have HK := Lib.hid hK
    clear hK
    refine Held.mk ?_
    go_simp
    exact HK.out _ (Below.refl _ _)
  intro x w' hb hp
  simp only [List.cons_append, List.nil_append, phis, MP.val, MP.box, MP.row, frL, Act.put, List.setIfInBounds_toArray, List.set_cons_zero, List.set_cons_succ, Nat.zero_add, Nat.reduceAdd] at hp ⊢
  obtain ⟨h77, h78, h79, h80, h81, -⟩ := hp
  simp only [h77, h78, h79, h80, h81]
  clear h77 h78 h79 h80 h81
  refine part_steps w6 82 86 [some 114, some 115, some 116, some 117] hb (by kernel_rfl) ?_
  clear hb x w'
  -- 82: Op.load 25 (Operand.tmp 8)
  apply ps_val
  · intro x w' hb hpre K hK
    have hc := (bcell hb).1
    clear hpre
    simp only [frL, Act.put, List.setIfInBounds_toArray, List.set_cons_zero, List.set_cons_succ, Nat.zero_add, Nat.reduceAdd] at hK ⊢
    have HK := Lib.hid hK
    clear hK
    refine Held.mk ?_
    go_simp
    exact HK.out _ (Below.refl _ _)
  -- 83: Op.load 25 (Operand.tmp 3)
  apply ps_val
  · intro x w' hb hpre K hK
    have hc := (bcell hb).1
    clear hpre
    simp only [frL, Act.put, List.setIfInBounds_toArray, List.set_cons_zero, List.set_cons_succ, Nat.zero_add, Nat.reduceAdd] at hK ⊢
    have HK := Lib.hid hK
    clear hK
    refine Held.mk ?_
    go_simp
    exact HK.out _ (Below.refl _ _)
  -- 84: Op.call { callee := Callee.value (Operand.func 14), args := #[Operand.tmp 114, Operand.tmp
  apply ps_val
  · intro x w' hb hpre K hK
    have hc := (bcell hb).1
    simp [preds, Region.binds, phi, phiO, MP.val, MP.box, MP.row] at hpre
    simp only [frL, Act.put, List.setIfInBounds_toArray, List.set_cons_zero, List.set_cons_succ, Nat.zero_add, Nat.reduceAdd, hpre] at hK ⊢
    have HK := Lib.hid hK
    clear hK
    refine Held.mk ?_
    go_simp
    (with_reducible refine (CV.out _).mono ?_)
    rintro e w1 ⟨rfl, hb1⟩
    dsimp only
    exact HK.out _ hb1
  -- 85: Op.pick (Operand.tmp 113) (Operand.tmp 116) (Operand.const (Value.bool false))
  apply ps_val
  · intro x w' hb hpre K hK
    have hc := (bcell hb).1
    simp [preds, Region.binds, phi, phiO, MP.val, MP.box, MP.row] at hpre
    simp only [frL, Act.put, List.setIfInBounds_toArray, List.set_cons_zero, List.set_cons_succ, Nat.zero_add, Nat.reduceAdd, hpre] at hK ⊢
    have HK := Lib.hid hK
    clear hK
    refine Held.mk ?_
    go_simp
    exact HK.out _ (Below.refl _ _)
  intro x w' hb hp
  simp only [List.cons_append, List.nil_append, phis, MP.val, MP.box, MP.row, frL, Act.put, List.setIfInBounds_toArray, List.set_cons_zero, List.set_cons_succ, Nat.zero_add, Nat.reduceAdd] at hp ⊢
  obtain ⟨h82, h83, h84, h85, -⟩ := hp
  simp only [h82, h83, h84, h85]
  clear h82 h83 h84 h85
  refine parts_tail (by kernel_rfl) ?_
  go_wp2_with fail
  go_light
  go_ret
  exact ⟨rfl, W6.trans (hb.mono W6.size)⟩
end Go.Proofs.Ytpnlhkpibgngbaa
