/- TypesMix returns true and keeps what was there, for all types whose names have at most 2^47/8 bytes. -/
import Derived.Test.YtpnlhkpibgngbaaMixP
import Derived.Deep.RegionHeld3
import Derived.Test.YtpnlhkpibgngbaaLo
namespace Go.Proofs.Ytpnlhkpibgngbaa
open Go.RowKit

theorem TyRow.blk {w : World} {b : Nat} {t : TypeId} {xs : List T3} (h : Blk w b (tyL xs).toArray t) : TyRow w (some ⟨b, 0, none⟩) xs := by
  refine .inr ⟨_, rfl, h.lt, fun j x hx => ?_⟩
  obtain ⟨h1, h2, h3⟩ := tyL_get xs j x hx
  exact ⟨by rw [h.cell]; simpa using h1, by rw [h.cell]; simpa using h2, by rw [h.cell]; simpa using h3⟩

theorem since2 {w w1 : World} (o : Obj) (h : Since w w1 ∧ ∀ b o, b < w.heap.size → w1.cell? ⟨b, o, none⟩ = w.cell? ⟨b, o, none⟩) : Since w (w1.alloc o) ∧ ∀ b o', b < w.heap.size → (w1.alloc o).cell? ⟨b, o', none⟩ = w.cell? ⟨b, o', none⟩ :=
  have k : Below w.heap.size w (w1.alloc o) := Below.alloc h.1 h.1.size o
  ⟨k, (bcell k).1⟩

set_option linter.constructorNameAsVariable false in
set_option maxRecDepth 100000 in
set_option maxHeartbeats 40000000 in
theorem mix_any (i0 : Int) (n0 : ByteArray) (o0 i1 : Int) (n1 : ByteArray) (o1 i2 : Int) (n2 : ByteArray) (o2 : Int) (w : World)
    (s0 : n0.size * 8 ≤ 140737488351232) (s1 : n1.size * 8 ≤ 140737488351232) (s2 : n2.size * 8 ≤ 140737488351232) :
    Calls Try.prog 3 #[.agg #[.int .i64 i0, .string n0, .int .i64 o0], .agg #[.int .i64 i1, .string n1, .int .i64 o1], .agg #[.int .i64 i2, .string n2, .int .i64 o2]] w fun e w' => e = .returned (.bool true) ∧ Below w.heap.size w w' := by
  go_enter Try.func3, Try.ntmps3
  go_wp2_with fail
  refine (awake_any _).mono ?_
  rintro e w1 ⟨rfl, b1⟩
  obtain ⟨hc1, hf1⟩ := bcell b1
  have z1 := b1.size
  simp only [World.size_alloc] at z1
  have l10 : w.heap.size < w1.heap.size := by omega
  have l11 : w.heap.size + 1 < w1.heap.size := by omega
  have l12 : w.heap.size + 1 + 1 < w1.heap.size := by omega
  go_wp2_with fail
  refine (rright_any _ _ _ _ s0).mono ?_
  rintro e w2 ⟨r0, rfl, b2, hr0⟩
  obtain ⟨hc2, hf2⟩ := bcell b2
  have z2 := b2.size
  have l20 : w.heap.size < w2.heap.size := by omega
  have l21 : w.heap.size + 1 < w2.heap.size := by omega
  have l22 : w.heap.size + 1 + 1 < w2.heap.size := by omega
  have HR0 := Lib.hid hr0
  clear hr0
  have k1 := Below.trans (Below.alloc (Below.alloc (Below.alloc (Below.refl w.heap.size w) (Nat.le_refl _) _) (by simp) _) (by simp; omega) _) (b1.mono (by simp; omega))
  have k2 : Below w.heap.size w w2 := k1.trans (b2.mono (by omega))
  clear k1
  cases r0
  case false =>
    go_wp2_with fail
    refine (awake_any _).mono ?_
    rintro e w3 ⟨rfl, b3⟩
    go_wp2_with fail
    go_light
    go_ret
    exact ⟨rfl, k2.trans (b3.mono k2.size)⟩
  case true =>
  go_wp2_with fail
  refine (rright_any _ _ _ _ s1).mono ?_
  rintro e w3 ⟨r1, rfl, b3, hr1⟩
  obtain ⟨hc3, hf3⟩ := bcell b3
  have z3 := b3.size
  have l30 : w.heap.size < w3.heap.size := by omega
  have l31 : w.heap.size + 1 < w3.heap.size := by omega
  have l32 : w.heap.size + 1 + 1 < w3.heap.size := by omega
  have HR1 := Lib.hid hr1
  clear hr1
  have k3 : Below w.heap.size w w3 := k2.trans (b3.mono k2.size)
  cases r1
  case false =>
    go_wp2_with fail
    refine (awake_any _).mono ?_
    rintro e w4 ⟨rfl, b4⟩
    go_wp2_with fail
    go_light
    go_ret
    exact ⟨rfl, k3.trans (b4.mono k3.size)⟩
  case true =>
  go_wp2_with fail
  refine (rright_any _ _ _ _ s2).mono ?_
  rintro e w4 ⟨r2, rfl, b4, hr2⟩
  obtain ⟨hc4, hf4⟩ := bcell b4
  have z4 := b4.size
  have l40 : w.heap.size < w4.heap.size := by omega
  have l41 : w.heap.size + 1 < w4.heap.size := by omega
  have l42 : w.heap.size + 1 + 1 < w4.heap.size := by omega
  have HR2 := Lib.hid hr2
  clear hr2
  have k4 : Below w.heap.size w w4 := k3.trans (b4.mono k3.size)
  cases r2
  case false =>
    go_wp2_with fail
    refine (awake_any _).mono ?_
    rintro e w5 ⟨rfl, b5⟩
    go_wp2_with fail
    go_light
    go_ret
    exact ⟨rfl, k4.trans (b5.mono k4.size)⟩
  case true =>
  have g0 := HR0.out (by trivial)
  have g1 := HR1.out (by trivial)
  have g2 := HR2.out (by trivial)
  have A0 : w4.cell? ⟨w.heap.size, 0, none⟩ = some (.int .i64 i0) := by simp [hc4, hc3, hc2, hc1, l10, l20, l30, l40, go_sem]
  have A1 : w4.cell? ⟨w.heap.size, 1, none⟩ = some (.string n0) := by simp [hc4, hc3, hc2, hc1, l10, l20, l30, l40, go_sem]
  have A2 : w4.cell? ⟨w.heap.size, 2, none⟩ = some (.int .i64 o0) := by simp [hc4, hc3, hc2, hc1, l10, l20, l30, l40, go_sem]
  have B0 : w4.cell? ⟨w.heap.size + 1, 0, none⟩ = some (.int .i64 i1) := by simp [hc4, hc3, hc2, hc1, l11, l21, l31, l41, go_sem]
  have B1 : w4.cell? ⟨w.heap.size + 1, 1, none⟩ = some (.string n1) := by simp [hc4, hc3, hc2, hc1, l11, l21, l31, l41, go_sem]
  have B2 : w4.cell? ⟨w.heap.size + 1, 2, none⟩ = some (.int .i64 o1) := by simp [hc4, hc3, hc2, hc1, l11, l21, l31, l41, go_sem]
  have C0 : w4.cell? ⟨w.heap.size + 1 + 1, 0, none⟩ = some (.int .i64 i2) := by simp [hc4, hc3, hc2, hc1, l12, l22, l32, l42, go_sem]
  have C1 : w4.cell? ⟨w.heap.size + 1 + 1, 1, none⟩ = some (.string n2) := by simp [hc4, hc3, hc2, hc1, l12, l22, l32, l42, go_sem]
  have C2 : w4.cell? ⟨w.heap.size + 1 + 1, 2, none⟩ = some (.int .i64 o2) := by simp [hc4, hc3, hc2, hc1, l12, l22, l32, l42, go_sem]
  clear hc1 hf1 hc2 hf2 hc3 hf3 hc4 hf4 b1 b2 b3 b4 z1 z2 z3 z4 HR0 HR1 HR2 k2 k3 l10 l11 l12 l20 l21 l22 l30 l31 l32
  -- the plain laws, and the contracts in their light
  have G0 := Lib.hid g0
  have G1 := Lib.hid g1
  have G2 := Lib.hid g2
  clear g0 g1 g2
  have CE0 := Lib.hid (fun w => either_any none 0 [] w (.inl ⟨rfl, rfl⟩) rfl (by omega))
  have CJ0 := Lib.hid (fun w => join_any none 0 [] w (.inl ⟨rfl, rfl⟩) rfl (by omega))
  rw [p_e0] at CE0
  rw [p_j0] at CJ0
  have CE1 := Lib.hid (fun w x h => either_any x 1 [⟨i0, n0, o0⟩] w h rfl (by omega))
  have CT0 := Lib.hid (fun w => two0_any i0 n0 o0 i0 n0 o0 w)
  rw [p_e1 ⟨i0, n0, o0⟩ G0.out] at CT0
  have CJ1 := Lib.hid (fun w x h => join_any x 1 [⟨i0, n0, o0⟩] w h rfl (by omega))
  have CT1 := Lib.hid (fun w => two1_any 0 ⟨#[]⟩ 3 i0 n0 o0 w)
  rw [p_j1 ⟨i0, n0, o0⟩ G0.out] at CT1
  generalize eitherF [⟨i0, n0, o0⟩] = R1 at *
  generalize joinF [⟨i0, n0, o0⟩] = R2 at *
  obtain ⟨x1, x2, x3⟩ := R1
  obtain ⟨y1, y2, y3⟩ := R2
  simp only at CE0 CJ0 CE1 CT0 CJ1 CT1
  go_wp2_with fail
  have W5 : Below w.heap.size w (w4.alloc (Obj.cells #[Value.int IntKind.i64 0, Value.string { data := #[] }, Value.int IntKind.i64 3] 25)) := k4.alloc k4.size _
  have D0 : (w4.alloc (Obj.cells #[Value.int IntKind.i64 0, Value.string { data := #[] }, Value.int IntKind.i64 3] 25)).cell? ⟨w4.heap.size, 0, none⟩ = some (.int .i64 0) := by simp [go_sem]
  have D1 : (w4.alloc (Obj.cells #[Value.int IntKind.i64 0, Value.string { data := #[] }, Value.int IntKind.i64 3] 25)).cell? ⟨w4.heap.size, 1, none⟩ = some (.string ⟨#[]⟩) := by simp [go_sem]
  have D2 : (w4.alloc (Obj.cells #[Value.int IntKind.i64 0, Value.string { data := #[] }, Value.int IntKind.i64 3] 25)).cell? ⟨w4.heap.size, 2, none⟩ = some (.int .i64 3) := by simp [go_sem]
  rw [← World.cell?_alloc_past (w := w4) (Obj.cells #[Value.int IntKind.i64 0, Value.string { data := #[] }, Value.int IntKind.i64 3] 25) _ _ l40] at A0 A1 A2
  rw [← World.cell?_alloc_past (w := w4) (Obj.cells #[Value.int IntKind.i64 0, Value.string { data := #[] }, Value.int IntKind.i64 3] 25) _ _ l41] at B0 B1 B2
  rw [← World.cell?_alloc_past (w := w4) (Obj.cells #[Value.int IntKind.i64 0, Value.string { data := #[] }, Value.int IntKind.i64 3] 25) _ _ l42] at C0 C1 C2
  obtain ⟨p4, hp4⟩ : ∃ p4, p4 = w4.heap.size := ⟨_, rfl⟩
  have lp0 : w.heap.size < p4 := by omega
  have lp1 : w.heap.size + 1 < p4 := by omega
  have lp2 : w.heap.size + 1 + 1 < p4 := by omega
  have lp3 : (w4.alloc (Obj.cells #[Value.int IntKind.i64 0, Value.string { data := #[] }, Value.int IntKind.i64 3] 25)).heap.size = p4 + 1 := by rw [hp4]; simp
  rw [← hp4] at D0 D1 D2 ⊢
  clear k4 l40 l41 l42 hp4
  generalize w4.alloc (Obj.cells #[Value.int IntKind.i64 0, Value.string { data := #[] }, Value.int IntKind.i64 3] 25) = w5 at *
  have m0 : w.heap.size < w5.heap.size := by omega
  have m1 : w.heap.size + 1 < w5.heap.size := by omega
  have m2 : w.heap.size + 1 + 1 < w5.heap.size := by omega
  have m3 : p4 < w5.heap.size := by omega
  clear lp3
  go_region_held3 (fun w' => Since w5 w' ∧ ∀ b o, b < w5.heap.size → w'.cell? ⟨b, o, none⟩ = w5.cell? ⟨b, o, none⟩)
    (first | assumption | exact since0 _ | exact since1 hb1 (by assumption) | exact since2 _ (by assumption))
    (first
      | (go_at_call 11; first | ((with_reducible refine (CE0.out _).mono ?_); rintro e w1 ⟨rfl, hb1⟩) | ((with_reducible refine (CE1.out _ _ (TyRow.new _ _ _ ?_)).mono ?_); exact rfl; rintro e w1 ⟨rfl, hb1⟩))
      | (go_at_call 12; first | ((with_reducible refine (CJ0.out _).mono ?_); rintro e w1 ⟨rfl, hb1⟩) | ((with_reducible refine (CJ1.out _ _ (TyRow.new _ _ _ ?_)).mono ?_); exact rfl; rintro e w1 ⟨rfl, hb1⟩))
      | (go_at_call 13; first | ((with_reducible refine (CT0.out _).mono ?_); rintro e w1 ⟨rfl, hb1⟩) | ((with_reducible refine (CT1.out _).mono ?_); rintro e w1 ⟨rfl, hb1⟩)))
  obtain ⟨hS, hcS⟩ : Since w5 w1 ∧ ∀ b o, b < w5.heap.size → w1.cell? ⟨b, o, none⟩ = w5.cell? ⟨b, o, none⟩ := by assumption
  clear CE0 CE1 CJ0 CJ1 CT0 CT1
  rw [← hcS _ _ m0] at A0 A1 A2
  rw [← hcS _ _ m1] at B0 B1 B2
  rw [← hcS _ _ m2] at C0 C1 C2
  have hzS := hS.size
  replace m0 : w.heap.size < w1.heap.size := by omega
  replace m1 : w.heap.size + 1 < w1.heap.size := by omega
  replace m2 : w.heap.size + 1 + 1 < w1.heap.size := by omega
  have W6 : Below w.heap.size w w1 := W5.trans (hS.mono W5.size)
  clear D0 D1 D2 hcS hS W5 m3 lp0 lp1 lp2 hzS
  have T1 := Lib.hid (fun w => two0_any i0 n0 o0 i1 n1 o1 w)
  have T3' := Lib.hid (fun w => two1_any i0 n0 o0 i1 n1 o1 w)
  have PE := Lib.hid (p_e3 ⟨i0, n0, o0⟩ ⟨i1, n1, o1⟩ ⟨i2, n2, o2⟩ G0.out G1.out G2.out)
  have PJ := Lib.hid (p_j3 ⟨i0, n0, o0⟩ ⟨i1, n1, o1⟩ ⟨i2, n2, o2⟩ G0.out G1.out G2.out)
  have PT := Lib.hid (p_t ⟨i0, n0, o0⟩ ⟨i1, n1, o1⟩ G0.out G1.out)
  have PS := Lib.hid (p_s ⟨i0, n0, o0⟩ ⟨i1, n1, o1⟩ G0.out G1.out)
  generalize two0 ⟨i0, n0, o0⟩ ⟨i1, n1, o1⟩ = X1 at *
  obtain ⟨x1, x2, x3⟩ := X1
  have T2 := Lib.hid (fun w => two0_any x1 x2 x3 i2 n2 o2 w)
  generalize two0 ⟨x1, x2, x3⟩ ⟨i2, n2, o2⟩ = X2 at *
  obtain ⟨y1, y2, y3⟩ := X2
  generalize two1 ⟨i0, n0, o0⟩ ⟨i1, n1, o1⟩ = X3 at *
  obtain ⟨u1, u2, u3⟩ := X3
  have T4 := Lib.hid (fun w => two1_any u1 u2 u3 i2 n2 o2 w)
  generalize two1 ⟨u1, u2, u3⟩ ⟨i2, n2, o2⟩ = X4 at *
  obtain ⟨v1, v2, v3⟩ := X4
  simp only at T1 T2 T3' T4
  obtain ⟨w6, rfl⟩ : ∃ w6 : World, w6 = w1 := ⟨_, rfl⟩
  go_wp2_with fail
  refine region_steps 6 [some 55, some 56, some 57, some 58, some 59, some 8] (by kernel_rfl) (by kernel_rfl) ?_
  -- 0: Op.load 25 (Operand.tmp 3)
  apply ls_val
  · intro x w' hb hpre K hK
    have hc := (bcell hb).1
    clear hpre
    simp only [frL, Act.put, List.setIfInBounds_toArray, List.set_cons_zero, List.set_cons_succ, Nat.zero_add, Nat.reduceAdd] at hK ⊢
    have HK := Lib.hid hK
    clear hK
    refine Held.mk ?_
    go_simp
    exact HK.out _ (Below.refl _ _)
  -- 1: Op.load 25 (Operand.tmp 4)
  apply ls_val
  · intro x w' hb hpre K hK
    have hc := (bcell hb).1
    clear hpre
    simp only [frL, Act.put, List.setIfInBounds_toArray, List.set_cons_zero, List.set_cons_succ, Nat.zero_add, Nat.reduceAdd] at hK ⊢
    have HK := Lib.hid hK
    clear hK
    refine Held.mk ?_
    go_simp
    exact HK.out _ (Below.refl _ _)
  -- 2: Op.call { callee := Callee.value (Operand.func 13), args := #[Operand.const (Value.int Int
  apply ls_val
  · intro x w' hb hpre K hK
    have hc := (bcell hb).1
    simp [preds, Region.binds, phi, MP.val, MP.box, MP.row] at hpre
    simp only [frL, Act.put, List.setIfInBounds_toArray, List.set_cons_zero, List.set_cons_succ, Nat.zero_add, Nat.reduceAdd, hpre] at hK ⊢
    have HK := Lib.hid hK
    clear hK
    refine Held.mk ?_
    go_simp
    (with_reducible refine (T1.out _).mono ?_)
    rintro e w1 ⟨rfl, hb1⟩
    dsimp only
    exact HK.out _ hb1
  -- 3: Op.load 25 (Operand.tmp 5)
  apply ls_val
  · intro x w' hb hpre K hK
    have hc := (bcell hb).1
    clear hpre
    simp only [frL, Act.put, List.setIfInBounds_toArray, List.set_cons_zero, List.set_cons_succ, Nat.zero_add, Nat.reduceAdd] at hK ⊢
    have HK := Lib.hid hK
    clear hK
    refine Held.mk ?_
    go_simp
    exact HK.out _ (Below.refl _ _)
  -- 4: Op.call { callee := Callee.value (Operand.func 13), args := #[Operand.const (Value.int Int
  apply ls_val
  · intro x w' hb hpre K hK
    have hc := (bcell hb).1
    simp [preds, Region.binds, phi, MP.val, MP.box, MP.row] at hpre
    simp only [frL, Act.put, List.setIfInBounds_toArray, List.set_cons_zero, List.set_cons_succ, Nat.zero_add, Nat.reduceAdd, hpre] at hK ⊢
    have HK := Lib.hid hK
    clear hK
    refine Held.mk ?_
    go_simp
    (with_reducible refine (T2.out _).mono ?_)
    rintro e w1 ⟨rfl, hb1⟩
    dsimp only
    exact HK.out _ hb1
  -- 5: Op.alloc 25
  refine ls_gen (.box w6.heap.size #[.int .i64 0, .string ⟨#[]⟩, .int .i64 0] 25) ?_ ?_
  · intro x w' hb hpre K hK
    have hc := (bcell hb).1
    clear hpre
    simp only [frL, Act.put, List.setIfInBounds_toArray, List.set_cons_zero, List.set_cons_succ, Nat.zero_add, Nat.reduceAdd] at hK ⊢
    have HK := Lib.hid hK
    clear hK
    refine Held.mk ?_
    go_simp
    exact HK.out _ _ ⟨_, rfl, hb.size, Blk.new _ _ _⟩ ((Below.refl _ _).alloc (Nat.le_refl _) _)
  intro x w' hb hp
  simp only [List.cons_append, List.nil_append, phis, MP.val, MP.box, MP.row, frL, Act.put, List.setIfInBounds_toArray, List.set_cons_zero, List.set_cons_succ, Nat.zero_add, Nat.reduceAdd] at hp ⊢
  obtain ⟨h0, h1, h2, h3, h4, ⟨q5, h5, hq5, hB5⟩, -⟩ := hp
  simp only [h0, h1, h2, h3, h4, h5]
  clear h0 h1 h2 h3 h4 h5
  obtain ⟨e0, e1, e2, fe0, fe1, fe2⟩ := hB5.three
  go_wp2_with fail
  refine wp_world ?_
  intro w7 hw7
  have K7 : Below w6.heap.size w6 w7 := by rw [hw7]; exact ((hb.setCell hq5 _).setCell hq5 _).setCell hq5 _
  have E7 : Blk w7 q5 #[.int .i64 y1, .string y2, .int .i64 y3] 25 := by rw [hw7]; exact ((hB5.set 0 _).set 1 _).set 2 _
  have hcS := (bcell K7).1
  clear hw7 e0 e1 e2 fe0 fe1 fe2 hB5 hb
  obtain ⟨qx, rfl⟩ : ∃ qx, qx = q5 := ⟨_, rfl⟩
  have hqx : w.heap.size + 1 + 1 < qx := by omega
  rw [← hcS _ _ m0] at A0 A1 A2
  rw [← hcS _ _ m1] at B0 B1 B2
  rw [← hcS _ _ m2] at C0 C1 C2
  have hzS := K7.size
  replace m0 : w.heap.size < w7.heap.size := by omega
  replace m1 : w.heap.size + 1 < w7.heap.size := by omega
  replace m2 : w.heap.size + 1 + 1 < w7.heap.size := by omega
  have m5 := E7.lt
  have W7 : Below w.heap.size w w7 := W6.trans (K7.mono W6.size)
  obtain ⟨e0, e1, e2, fe0, fe1, fe2⟩ := E7.three
  clear hcS K7 W6 hzS T1 T2 fe0 fe1 fe2 hq5
  refine region_steps 6 [some 60, some 61, some 62, some 63, some 64, some 9] (by kernel_rfl) (by kernel_rfl) ?_
  -- 0: Op.load 25 (Operand.tmp 3)
  apply ls_val
  · intro x w' hb hpre K hK
    have hc := (bcell hb).1
    clear hpre
    simp only [frL, Act.put, List.setIfInBounds_toArray, List.set_cons_zero, List.set_cons_succ, Nat.zero_add, Nat.reduceAdd] at hK ⊢
    have HK := Lib.hid hK
    clear hK
    refine Held.mk ?_
    go_simp
    exact HK.out _ (Below.refl _ _)
  -- 1: Op.load 25 (Operand.tmp 4)
  apply ls_val
  · intro x w' hb hpre K hK
    have hc := (bcell hb).1
    clear hpre
    simp only [frL, Act.put, List.setIfInBounds_toArray, List.set_cons_zero, List.set_cons_succ, Nat.zero_add, Nat.reduceAdd] at hK ⊢
    have HK := Lib.hid hK
    clear hK
    refine Held.mk ?_
    go_simp
    exact HK.out _ (Below.refl _ _)
  -- 2: Op.call { callee := Callee.value (Operand.func 13), args := #[Operand.const (Value.int Int
  apply ls_val
  · intro x w' hb hpre K hK
    have hc := (bcell hb).1
    simp [preds, Region.binds, phi, MP.val, MP.box, MP.row] at hpre
    simp only [frL, Act.put, List.setIfInBounds_toArray, List.set_cons_zero, List.set_cons_succ, Nat.zero_add, Nat.reduceAdd, hpre] at hK ⊢
    have HK := Lib.hid hK
    clear hK
    refine Held.mk ?_
    go_simp
    (with_reducible refine (T3'.out _).mono ?_)
    rintro e w1 ⟨rfl, hb1⟩
    dsimp only
    exact HK.out _ hb1
  -- 3: Op.load 25 (Operand.tmp 5)
  apply ls_val
  · intro x w' hb hpre K hK
    have hc := (bcell hb).1
    clear hpre
    simp only [frL, Act.put, List.setIfInBounds_toArray, List.set_cons_zero, List.set_cons_succ, Nat.zero_add, Nat.reduceAdd] at hK ⊢
    have HK := Lib.hid hK
    clear hK
    refine Held.mk ?_
    go_simp
    exact HK.out _ (Below.refl _ _)
  -- 4: Op.call { callee := Callee.value (Operand.func 13), args := #[Operand.const (Value.int Int
  apply ls_val
  · intro x w' hb hpre K hK
    have hc := (bcell hb).1
    simp [preds, Region.binds, phi, MP.val, MP.box, MP.row] at hpre
    simp only [frL, Act.put, List.setIfInBounds_toArray, List.set_cons_zero, List.set_cons_succ, Nat.zero_add, Nat.reduceAdd, hpre] at hK ⊢
    have HK := Lib.hid hK
    clear hK
    refine Held.mk ?_
    go_simp
    (with_reducible refine (T4.out _).mono ?_)
    rintro e w1 ⟨rfl, hb1⟩
    dsimp only
    exact HK.out _ hb1
  -- 5: Op.alloc 25
  refine ls_gen (.box w7.heap.size #[.int .i64 0, .string ⟨#[]⟩, .int .i64 0] 25) ?_ ?_
  · intro x w' hb hpre K hK
    have hc := (bcell hb).1
    clear hpre
    simp only [frL, Act.put, List.setIfInBounds_toArray, List.set_cons_zero, List.set_cons_succ, Nat.zero_add, Nat.reduceAdd] at hK ⊢
    have HK := Lib.hid hK
    clear hK
    refine Held.mk ?_
    go_simp
    exact HK.out _ _ ⟨_, rfl, hb.size, Blk.new _ _ _⟩ ((Below.refl _ _).alloc (Nat.le_refl _) _)
  intro x w' hb hp
  simp only [List.cons_append, List.nil_append, phis, MP.val, MP.box, MP.row, frL, Act.put, List.setIfInBounds_toArray, List.set_cons_zero, List.set_cons_succ, Nat.zero_add, Nat.reduceAdd] at hp ⊢
  obtain ⟨h0, h1, h2, h3, h4, ⟨q5, h5, hq5, hB5⟩, -⟩ := hp
  simp only [h0, h1, h2, h3, h4, h5]
  clear h0 h1 h2 h3 h4 h5
  obtain ⟨f0, f1, f2, ff0, ff1, ff2⟩ := hB5.three
  go_wp2_with fail
  refine wp_world ?_
  intro w8 hw8
  have K8 : Below w7.heap.size w7 w8 := by rw [hw8]; exact ((hb.setCell hq5 _).setCell hq5 _).setCell hq5 _
  have E8 : Blk w8 q5 #[.int .i64 v1, .string v2, .int .i64 v3] 25 := by rw [hw8]; exact ((hB5.set 0 _).set 1 _).set 2 _
  have hcS := (bcell K8).1
  clear hw8 f0 f1 f2 ff0 ff1 ff2 hB5 hb
  obtain ⟨qy, rfl⟩ : ∃ qy, qy = q5 := ⟨_, rfl⟩
  rw [← hcS _ _ m0] at A0 A1 A2
  rw [← hcS _ _ m1] at B0 B1 B2
  rw [← hcS _ _ m2] at C0 C1 C2
  rw [← hcS _ _ m5] at e0 e1 e2
  have hzS := K8.size
  replace m0 : w.heap.size < w8.heap.size := by omega
  replace m1 : w.heap.size + 1 < w8.heap.size := by omega
  replace m2 : w.heap.size + 1 + 1 < w8.heap.size := by omega
  replace m5 : qx < w8.heap.size := by omega
  have m6 : qy < w8.heap.size := E8.lt
  have W8 : Below w.heap.size w w8 := W7.trans (K8.mono W7.size)
  obtain ⟨f0, f1, f2, ff0, ff1, ff2⟩ := E8.three
  clear hcS K8 W7 hzS T3' T4 ff0 ff1 ff2 hq5 E7 E8
  have CS := Lib.hid (fun w => sub_any i0 n0 o0 i1 n1 o1 w)
  have CR := Lib.hid (fun w => rsub_any i0 n0 o0 i1 n1 o1 w)
  rw [PS.out] at CS
  generalize rsubF ⟨i0, n0, o0⟩ ⟨i1, n1, o1⟩ = bs at *
  have CE := Lib.hid (fun w x h => either_any x 3 [⟨i0, n0, o0⟩, ⟨i1, n1, o1⟩, ⟨i2, n2, o2⟩] w h rfl (by omega))
  have CJ := Lib.hid (fun w x h => join_any x 3 [⟨i0, n0, o0⟩, ⟨i1, n1, o1⟩, ⟨i2, n2, o2⟩] w h rfl (by omega))
  rw [PE.out] at CE
  rw [PJ.out] at CJ
  have CT := Lib.hid (fun w => times_any i0 n0 o0 i1 n1 o1 w)
  have CU := Lib.hid (fun w => two2_any i0 n0 o0 i1 n1 o1 w)
  rw [PT.out] at CT
  generalize two2 ⟨i0, n0, o0⟩ ⟨i1, n1, o1⟩ = X5 at *
  obtain ⟨t1, t2, t3⟩ := X5
  simp only at CE CJ CT CU
  clear PE PJ PT PS G0 G1 G2
  refine region_steps 34 [some 65, some 66, some 67, some 68, some 69, some 70, some 71, some 72, some 73, some 74, some 75, some 76, some 77, some 78, some 79, some 80, some 81, some 82, some 83, some 84, some 85, some 86, some 87, some 88, some 89, some 90, some 91, some 92, some 93, some 94, some 95, some 96, some 97, some 98] (by kernel_rfl) (by kernel_rfl) ?_
  -- 0: Op.load 25 (Operand.tmp 3)
  apply ls_val
  · intro x w' hb hpre K hK
    have hc := (bcell hb).1
    clear hpre
    simp only [frL, Act.put, List.setIfInBounds_toArray, List.set_cons_zero, List.set_cons_succ, Nat.zero_add, Nat.reduceAdd] at hK ⊢
    have HK := Lib.hid hK
    clear hK
    refine Held.mk ?_
    go_simp
    exact HK.out _ (Below.refl _ _)
  -- 1: Op.load 25 (Operand.tmp 4)
  apply ls_val
  · intro x w' hb hpre K hK
    have hc := (bcell hb).1
    clear hpre
    simp only [frL, Act.put, List.setIfInBounds_toArray, List.set_cons_zero, List.set_cons_succ, Nat.zero_add, Nat.reduceAdd] at hK ⊢
    have HK := Lib.hid hK
    clear hK
    refine Held.mk ?_
    go_simp
    exact HK.out _ (Below.refl _ _)
  -- 2: Op.call { callee := Callee.value (Operand.func 14), args := #[Operand.tmp 65, Operand.tmp 
  apply ls_val
  · intro x w' hb hpre K hK
    have hc := (bcell hb).1
    simp [preds, Region.binds, phi, MP.val, MP.box, MP.row] at hpre
    simp only [frL, Act.put, List.setIfInBounds_toArray, List.set_cons_zero, List.set_cons_succ, Nat.zero_add, Nat.reduceAdd, hpre] at hK ⊢
    have HK := Lib.hid hK
    clear hK
    refine Held.mk ?_
    go_simp
    (with_reducible refine (CS.out _).mono ?_)
    rintro e w1 ⟨rfl, hb1⟩
    dsimp only
    exact HK.out _ hb1
  -- 3: Op.load 25 (Operand.tmp 3)
  apply ls_val
  · intro x w' hb hpre K hK
    have hc := (bcell hb).1
    clear hpre
    simp only [frL, Act.put, List.setIfInBounds_toArray, List.set_cons_zero, List.set_cons_succ, Nat.zero_add, Nat.reduceAdd] at hK ⊢
    have HK := Lib.hid hK
    clear hK
    refine Held.mk ?_
    go_simp
    exact HK.out _ (Below.refl _ _)
  -- 4: Op.load 25 (Operand.tmp 4)
  apply ls_val
  · intro x w' hb hpre K hK
    have hc := (bcell hb).1
    clear hpre
    simp only [frL, Act.put, List.setIfInBounds_toArray, List.set_cons_zero, List.set_cons_succ, Nat.zero_add, Nat.reduceAdd] at hK ⊢
    have HK := Lib.hid hK
    clear hK
    refine Held.mk ?_
    go_simp
    exact HK.out _ (Below.refl _ _)
  -- 5: Op.call { callee := Callee.value (Operand.func 15), args := #[Operand.tmp 68, Operand.tmp 
  apply ls_val
  · intro x w' hb hpre K hK
    have hc := (bcell hb).1
    simp [preds, Region.binds, phi, MP.val, MP.box, MP.row] at hpre
    simp only [frL, Act.put, List.setIfInBounds_toArray, List.set_cons_zero, List.set_cons_succ, Nat.zero_add, Nat.reduceAdd, hpre] at hK ⊢
    have HK := Lib.hid hK
    clear hK
    refine Held.mk ?_
    go_simp
    (with_reducible refine (CR.out _).mono ?_)
    rintro e w1 ⟨rfl, hb1⟩
    dsimp only
    exact HK.out _ hb1
  -- 6: Op.binOp BinOp.eql 4 (Operand.tmp 67) (Operand.tmp 70) 4
  apply ls_val
  · intro x w' hb hpre K hK
    have hc := (bcell hb).1
    simp [preds, Region.binds, phi, MP.val, MP.box, MP.row] at hpre
    simp only [frL, Act.put, List.setIfInBounds_toArray, List.set_cons_zero, List.set_cons_succ, Nat.zero_add, Nat.reduceAdd, hpre] at hK ⊢
    have HK := Lib.hid hK
    clear hK
    refine Held.mk ?_
    go_simp
    exact HK.out _ (Below.refl _ _)
  -- 7: Op.move (Operand.tmp 71)
  apply ls_val
  · intro x w' hb hpre K hK
    have hc := (bcell hb).1
    simp [preds, Region.binds, phi, MP.val, MP.box, MP.row] at hpre
    simp only [frL, Act.put, List.setIfInBounds_toArray, List.set_cons_zero, List.set_cons_succ, Nat.zero_add, Nat.reduceAdd, hpre] at hK ⊢
    have HK := Lib.hid hK
    clear hK
    refine Held.mk ?_
    go_simp
    exact HK.out _ (Below.refl _ _)
  -- 8: Op.load 25 (Operand.tmp 3)
  apply ls_val
  · intro x w' hb hpre K hK
    have hc := (bcell hb).1
    simp [preds, Region.binds, phi, MP.val, MP.box, MP.row] at hpre
    simp only [frL, Act.put, List.setIfInBounds_toArray, List.set_cons_zero, List.set_cons_succ, Nat.zero_add, Nat.reduceAdd, hpre] at hK ⊢
    have HK := Lib.hid hK
    clear hK
    refine Held.mk ?_
    go_simp
    exact HK.out _ (Below.refl _ _)
  -- 9: Op.load 25 (Operand.tmp 4)
  apply ls_val
  · intro x w' hb hpre K hK
    have hc := (bcell hb).1
    simp [preds, Region.binds, phi, MP.val, MP.box, MP.row] at hpre
    simp only [frL, Act.put, List.setIfInBounds_toArray, List.set_cons_zero, List.set_cons_succ, Nat.zero_add, Nat.reduceAdd, hpre] at hK ⊢
    have HK := Lib.hid hK
    clear hK
    refine Held.mk ?_
    go_simp
    exact HK.out _ (Below.refl _ _)
  -- 10: Op.load 25 (Operand.tmp 5)
  apply ls_val
  · intro x w' hb hpre K hK
    have hc := (bcell hb).1
    simp [preds, Region.binds, phi, MP.val, MP.box, MP.row] at hpre
    simp only [frL, Act.put, List.setIfInBounds_toArray, List.set_cons_zero, List.set_cons_succ, Nat.zero_add, Nat.reduceAdd, hpre] at hK ⊢
    have HK := Lib.hid hK
    clear hK
    refine Held.mk ?_
    go_simp
    exact HK.out _ (Below.refl _ _)
  -- 11: Op.buildSlice 55 3 #[(0, Operand.tmp 73), (1, Operand.tmp 74), (2, Operand.tmp 75)]
  refine ls_gen (.row w8.heap.size 3 #[.int .i64 i0, .string n0, .int .i64 o0, .int .i64 i1, .string n1, .int .i64 o1, .int .i64 i2, .string n2, .int .i64 o2] 25) ?_ ?_
  · intro x w' hb hpre K hK
    have hc := (bcell hb).1
    simp [preds, Region.binds, phi, MP.val, MP.box, MP.row] at hpre
    simp only [frL, Act.put, List.setIfInBounds_toArray, List.set_cons_zero, List.set_cons_succ, Nat.zero_add, Nat.reduceAdd, hpre] at hK ⊢
    have HK := Lib.hid hK
    clear hK
    refine Held.mk ?_
    go_simp
    exact HK.out _ _ ⟨_, rfl, hb.size, Blk.new _ _ _⟩ ((Below.refl _ _).alloc (Nat.le_refl _) _)
  -- 12: Op.call { callee := Callee.value (Operand.func 11), args := #[Operand.tmp 76], argTypes :=
  apply ls_val
  · intro x w' hb hpre K hK
    have hc := (bcell hb).1
    simp [preds, Region.binds, phi, MP.val, MP.box, MP.row] at hpre
    obtain ⟨⟨q11, h11, hq11, hB11⟩, hrest⟩ := hpre
    simp only [frL, Act.put, List.setIfInBounds_toArray, List.set_cons_zero, List.set_cons_succ, Nat.zero_add, Nat.reduceAdd, h11, hrest] at hK ⊢
    have HK := Lib.hid hK
    clear hK
    refine Held.mk ?_
    go_simp
    (with_reducible refine (CE.out _ _ (TyRow.blk (t := 25) (xs := [⟨i0, n0, o0⟩, ⟨i1, n1, o1⟩, ⟨i2, n2, o2⟩]) ?_)).mono ?_)
    exact hB11
    rintro e w1 ⟨rfl, hb1⟩
    dsimp only
    exact HK.out _ hb1
  -- 13: Op.load 25 (Operand.tmp 8)
  apply ls_val
  · intro x w' hb hpre K hK
    have hc := (bcell hb).1
    simp [preds, Region.binds, phi, MP.val, MP.box, MP.row] at hpre
    simp only [frL, Act.put, List.setIfInBounds_toArray, List.set_cons_zero, List.set_cons_succ, Nat.zero_add, Nat.reduceAdd, hpre] at hK ⊢
    have HK := Lib.hid hK
    clear hK
    refine Held.mk ?_
    go_simp
    exact HK.out _ (Below.refl _ _)
  -- 14: Op.binOp BinOp.eql 25 (Operand.tmp 77) (Operand.tmp 78) 25
  apply ls_val
  · intro x w' hb hpre K hK
    have hc := (bcell hb).1
    simp [preds, Region.binds, phi, MP.val, MP.box, MP.row] at hpre
    simp only [frL, Act.put, List.setIfInBounds_toArray, List.set_cons_zero, List.set_cons_succ, Nat.zero_add, Nat.reduceAdd, hpre] at hK ⊢
    have HK := Lib.hid hK
    clear hK
    refine Held.mk ?_
    go_simp
    exact HK.out _ (Below.refl _ _)
  -- 15: Op.pick (Operand.tmp 72) (Operand.tmp 79) (Operand.const (Value.bool false))
  apply ls_val
  · intro x w' hb hpre K hK
    have hc := (bcell hb).1
    simp [preds, Region.binds, phi, MP.val, MP.box, MP.row] at hpre
    simp only [frL, Act.put, List.setIfInBounds_toArray, List.set_cons_zero, List.set_cons_succ, Nat.zero_add, Nat.reduceAdd, hpre] at hK ⊢
    have HK := Lib.hid hK
    clear hK
    refine Held.mk ?_
    go_simp
    exact HK.out _ (Below.refl _ _)
  -- 16: Op.move (Operand.tmp 80)
  apply ls_val
  · intro x w' hb hpre K hK
    have hc := (bcell hb).1
    simp [preds, Region.binds, phi, MP.val, MP.box, MP.row] at hpre
    simp only [frL, Act.put, List.setIfInBounds_toArray, List.set_cons_zero, List.set_cons_succ, Nat.zero_add, Nat.reduceAdd, hpre] at hK ⊢
    have HK := Lib.hid hK
    clear hK
    refine Held.mk ?_
    go_simp
    exact HK.out _ (Below.refl _ _)
  -- 17: Op.load 25 (Operand.tmp 3)
  apply ls_val
  · intro x w' hb hpre K hK
    have hc := (bcell hb).1
    simp [preds, Region.binds, phi, MP.val, MP.box, MP.row] at hpre
    simp only [frL, Act.put, List.setIfInBounds_toArray, List.set_cons_zero, List.set_cons_succ, Nat.zero_add, Nat.reduceAdd, hpre] at hK ⊢
    have HK := Lib.hid hK
    clear hK
    refine Held.mk ?_
    go_simp
    exact HK.out _ (Below.refl _ _)
  -- 18: Op.load 25 (Operand.tmp 4)
  apply ls_val
  · intro x w' hb hpre K hK
    have hc := (bcell hb).1
    simp [preds, Region.binds, phi, MP.val, MP.box, MP.row] at hpre
    simp only [frL, Act.put, List.setIfInBounds_toArray, List.set_cons_zero, List.set_cons_succ, Nat.zero_add, Nat.reduceAdd, hpre] at hK ⊢
    have HK := Lib.hid hK
    clear hK
    refine Held.mk ?_
    go_simp
    exact HK.out _ (Below.refl _ _)
  -- 19: Op.load 25 (Operand.tmp 5)
  apply ls_val
  · intro x w' hb hpre K hK
    have hc := (bcell hb).1
    simp [preds, Region.binds, phi, MP.val, MP.box, MP.row] at hpre
    simp only [frL, Act.put, List.setIfInBounds_toArray, List.set_cons_zero, List.set_cons_succ, Nat.zero_add, Nat.reduceAdd, hpre] at hK ⊢
    have HK := Lib.hid hK
    clear hK
    refine Held.mk ?_
    go_simp
    exact HK.out _ (Below.refl _ _)
  -- 20: Op.buildSlice 55 3 #[(0, Operand.tmp 82), (1, Operand.tmp 83), (2, Operand.tmp 84)]
  refine ls_gen (.row w8.heap.size 3 #[.int .i64 i0, .string n0, .int .i64 o0, .int .i64 i1, .string n1, .int .i64 o1, .int .i64 i2, .string n2, .int .i64 o2] 25) ?_ ?_
  · intro x w' hb hpre K hK
    have hc := (bcell hb).1
    simp [preds, Region.binds, phi, MP.val, MP.box, MP.row] at hpre
    simp only [frL, Act.put, List.setIfInBounds_toArray, List.set_cons_zero, List.set_cons_succ, Nat.zero_add, Nat.reduceAdd, hpre] at hK ⊢
    have HK := Lib.hid hK
    clear hK
    refine Held.mk ?_
    go_simp
    exact HK.out _ _ ⟨_, rfl, hb.size, Blk.new _ _ _⟩ ((Below.refl _ _).alloc (Nat.le_refl _) _)
  -- 21: Op.call { callee := Callee.value (Operand.func 12), args := #[Operand.tmp 85], argTypes :=
  apply ls_val
  · intro x w' hb hpre K hK
    have hc := (bcell hb).1
    simp [preds, Region.binds, phi, MP.val, MP.box, MP.row] at hpre
    obtain ⟨⟨q20, h20, hq20, hB20⟩, hrest⟩ := hpre
    simp only [frL, Act.put, List.setIfInBounds_toArray, List.set_cons_zero, List.set_cons_succ, Nat.zero_add, Nat.reduceAdd, h20, hrest] at hK ⊢
    have HK := Lib.hid hK
    clear hK
    refine Held.mk ?_
    go_simp
    (with_reducible refine (CJ.out _ _ (TyRow.blk (t := 25) (xs := [⟨i0, n0, o0⟩, ⟨i1, n1, o1⟩, ⟨i2, n2, o2⟩]) ?_)).mono ?_)
    exact hB20
    rintro e w1 ⟨rfl, hb1⟩
    dsimp only
    exact HK.out _ hb1
  -- 22: Op.load 25 (Operand.tmp 9)
  apply ls_val
  · intro x w' hb hpre K hK
    have hc := (bcell hb).1
    simp [preds, Region.binds, phi, MP.val, MP.box, MP.row] at hpre
    simp only [frL, Act.put, List.setIfInBounds_toArray, List.set_cons_zero, List.set_cons_succ, Nat.zero_add, Nat.reduceAdd, hpre] at hK ⊢
    have HK := Lib.hid hK
    clear hK
    refine Held.mk ?_
    go_simp
    exact HK.out _ (Below.refl _ _)
  -- 23: Op.binOp BinOp.eql 25 (Operand.tmp 86) (Operand.tmp 87) 25
  apply ls_val
  · intro x w' hb hpre K hK
    have hc := (bcell hb).1
    simp [preds, Region.binds, phi, MP.val, MP.box, MP.row] at hpre
    simp only [frL, Act.put, List.setIfInBounds_toArray, List.set_cons_zero, List.set_cons_succ, Nat.zero_add, Nat.reduceAdd, hpre] at hK ⊢
    have HK := Lib.hid hK
    clear hK
    refine Held.mk ?_
    go_simp
    exact HK.out _ (Below.refl _ _)
  -- 24: Op.pick (Operand.tmp 81) (Operand.tmp 88) (Operand.const (Value.bool false))
  apply ls_val
  · intro x w' hb hpre K hK
    have hc := (bcell hb).1
    simp [preds, Region.binds, phi, MP.val, MP.box, MP.row] at hpre
    simp only [frL, Act.put, List.setIfInBounds_toArray, List.set_cons_zero, List.set_cons_succ, Nat.zero_add, Nat.reduceAdd, hpre] at hK ⊢
    have HK := Lib.hid hK
    clear hK
    refine Held.mk ?_
    go_simp
    exact HK.out _ (Below.refl _ _)
  -- 25: Op.move (Operand.tmp 89)
  apply ls_val
  · intro x w' hb hpre K hK
    have hc := (bcell hb).1
    simp [preds, Region.binds, phi, MP.val, MP.box, MP.row] at hpre
    simp only [frL, Act.put, List.setIfInBounds_toArray, List.set_cons_zero, List.set_cons_succ, Nat.zero_add, Nat.reduceAdd, hpre] at hK ⊢
    have HK := Lib.hid hK
    clear hK
    refine Held.mk ?_
    go_simp
    exact HK.out _ (Below.refl _ _)
  -- 26: Op.load 25 (Operand.tmp 3)
  apply ls_val
  · intro x w' hb hpre K hK
    have hc := (bcell hb).1
    simp [preds, Region.binds, phi, MP.val, MP.box, MP.row] at hpre
    simp only [frL, Act.put, List.setIfInBounds_toArray, List.set_cons_zero, List.set_cons_succ, Nat.zero_add, Nat.reduceAdd, hpre] at hK ⊢
    have HK := Lib.hid hK
    clear hK
    refine Held.mk ?_
    go_simp
    exact HK.out _ (Below.refl _ _)
  -- 27: Op.load 25 (Operand.tmp 4)
  apply ls_val
  · intro x w' hb hpre K hK
    have hc := (bcell hb).1
    simp [preds, Region.binds, phi, MP.val, MP.box, MP.row] at hpre
    simp only [frL, Act.put, List.setIfInBounds_toArray, List.set_cons_zero, List.set_cons_succ, Nat.zero_add, Nat.reduceAdd, hpre] at hK ⊢
    have HK := Lib.hid hK
    clear hK
    refine Held.mk ?_
    go_simp
    exact HK.out _ (Below.refl _ _)
  -- 28: Op.call { callee := Callee.value (Operand.func 16), args := #[Operand.tmp 91, Operand.tmp 
  apply ls_val
  · intro x w' hb hpre K hK
    have hc := (bcell hb).1
    simp [preds, Region.binds, phi, MP.val, MP.box, MP.row] at hpre
    simp only [frL, Act.put, List.setIfInBounds_toArray, List.set_cons_zero, List.set_cons_succ, Nat.zero_add, Nat.reduceAdd, hpre] at hK ⊢
    have HK := Lib.hid hK
    clear hK
    refine Held.mk ?_
    go_simp
    (with_reducible refine (CT.out _).mono ?_)
    rintro e w1 ⟨rfl, hb1⟩
    dsimp only
    exact HK.out _ hb1
  -- 29: Op.load 25 (Operand.tmp 3)
  apply ls_val
  · intro x w' hb hpre K hK
    have hc := (bcell hb).1
    simp [preds, Region.binds, phi, MP.val, MP.box, MP.row] at hpre
    simp only [frL, Act.put, List.setIfInBounds_toArray, List.set_cons_zero, List.set_cons_succ, Nat.zero_add, Nat.reduceAdd, hpre] at hK ⊢
    have HK := Lib.hid hK
    clear hK
    refine Held.mk ?_
    go_simp
    exact HK.out _ (Below.refl _ _)
  -- 30: Op.load 25 (Operand.tmp 4)
  apply ls_val
  · intro x w' hb hpre K hK
    have hc := (bcell hb).1
    simp [preds, Region.binds, phi, MP.val, MP.box, MP.row] at hpre
    simp only [frL, Act.put, List.setIfInBounds_toArray, List.set_cons_zero, List.set_cons_succ, Nat.zero_add, Nat.reduceAdd, hpre] at hK ⊢
    have HK := Lib.hid hK
    clear hK
    refine Held.mk ?_
    go_simp
    exact HK.out _ (Below.refl _ _)
  -- 31: Op.call { callee := Callee.value (Operand.func 13), args := #[Operand.const (Value.int Int
  apply ls_val
  · intro x w' hb hpre K hK
    have hc := (bcell hb).1
    simp [preds, Region.binds, phi, MP.val, MP.box, MP.row] at hpre
    simp only [frL, Act.put, List.setIfInBounds_toArray, List.set_cons_zero, List.set_cons_succ, Nat.zero_add, Nat.reduceAdd, hpre] at hK ⊢
    have HK := Lib.hid hK
    clear hK
    refine Held.mk ?_
    go_simp
    (with_reducible refine (CU.out _).mono ?_)
    rintro e w1 ⟨rfl, hb1⟩
    dsimp only
    exact HK.out _ hb1
  -- 32: Op.binOp BinOp.eql 25 (Operand.tmp 93) (Operand.tmp 96) 25
  apply ls_val
  · intro x w' hb hpre K hK
    have hc := (bcell hb).1
    simp [preds, Region.binds, phi, MP.val, MP.box, MP.row] at hpre
    simp only [frL, Act.put, List.setIfInBounds_toArray, List.set_cons_zero, List.set_cons_succ, Nat.zero_add, Nat.reduceAdd, hpre] at hK ⊢
    have HK := Lib.hid hK
    clear hK
    refine Held.mk ?_
    go_simp
    exact HK.out _ (Below.refl _ _)
  -- 33: Op.pick (Operand.tmp 90) (Operand.tmp 97) (Operand.const (Value.bool false))
  apply ls_val
  · intro x w' hb hpre K hK
    have hc := (bcell hb).1
    simp [preds, Region.binds, phi, MP.val, MP.box, MP.row] at hpre
    simp only [frL, Act.put, List.setIfInBounds_toArray, List.set_cons_zero, List.set_cons_succ, Nat.zero_add, Nat.reduceAdd, hpre] at hK ⊢
    have HK := Lib.hid hK
    clear hK
    refine Held.mk ?_
    go_simp
    exact HK.out _ (Below.refl _ _)
  intro x w' hb hp
  simp only [List.cons_append, List.nil_append, phis, MP.val, MP.box, MP.row, frL, Act.put, List.setIfInBounds_toArray, List.set_cons_zero, List.set_cons_succ, Nat.zero_add, Nat.reduceAdd] at hp ⊢
  obtain ⟨h0, h1, h2, h3, h4, h5, h6, h7, h8, h9, h10, ⟨q11, h11, hq11, hB11⟩, h12, h13, h14, h15, h16, h17, h18, h19, ⟨q20, h20, hq20, hB20⟩, h21, h22, h23, h24, h25, h26, h27, h28, h29, h30, h31, h32, h33, -⟩ := hp
  simp only [h0, h1, h2, h3, h4, h5, h6, h7, h8, h9, h10, h11, h12, h13, h14, h15, h16, h17, h18, h19, h20, h21, h22, h23, h24, h25, h26, h27, h28, h29, h30, h31, h32, h33]
  clear h0 h1 h2 h3 h4 h5 h6 h7 h8 h9 h10 h11 h12 h13 h14 h15 h16 h17 h18 h19 h20 h21 h22 h23 h24 h25 h26 h27 h28 h29 h30 h31 h32 h33
  go_wp2_with fail
  go_light
  go_ret
  exact ⟨rfl, W8.trans (hb.mono W8.size)⟩
end Go.Proofs.Ytpnlhkpibgngbaa
