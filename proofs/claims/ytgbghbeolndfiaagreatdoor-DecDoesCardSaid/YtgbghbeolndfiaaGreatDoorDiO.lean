/- The document's operations: Div. -/
import Derived.Test.YtgbghbeolndfiaaGreatDoorDiN
import Derived.Test.YtgbghbeolndfiaaGreatDoorLoJ
set_option linter.unusedSimpArgs false
set_option linter.unusedVariables false
set_option linter.constructorNameAsVariable false
namespace Go.Proofs.YtgbghbeolndfiaaGreatDoor
open Go.RowKit

/-- A block that holds a number of the document's. -/
def Bx (w : World) (q : Nat) : Prop := ∃ u g n c, Blk w q #[.bool u, .slice g n c] 37
theorem irow_bx {w : World} {q : Nat} (hB : Bx w q) {a : Option Addr} {n : Nat} {xs : List Int} (h : IRow w a n xs) (u v : Value) : IRow ((w.setCell ⟨q, 0, none⟩ u).setCell ⟨q, 1, none⟩ v) a n xs := by
  obtain ⟨u0, g0, n0, c0, hB⟩ := hB
  have hne : 0 < n → ∀ b o, a = some ⟨b, o, none⟩ → b ≠ q := fun hn b o e => by
    obtain ⟨b', o', e', hl, hc⟩ := h.2.2 hn
    rw [e] at e'
    cases e'
    intro he
    subst he
    have hx : ∃ x, xs[0]? = some x := ⟨xs[0]'(by have := h.1; omega), by simp⟩
    obtain ⟨x, hx⟩ := hx
    have := hc 0 x hx
    rw [hB.cell] at this
    match o, this with
    | 0, h => simp at h
    | 1, h => simp at h
    | o + 2, h => simp at h
  exact (h.other u fun hn b o e => hne hn b o e).other v fun hn b o e => hne hn b o e
/-- Rows stay, such blocks stay such. -/
structure RB (B : Nat) (w w' : World) : Prop where
  bl : Below B w w'
  rows : ∀ a n xs, IRow w a n xs → IRow w' a n xs
  box : ∀ q, Bx w q → Bx w' q
theorem RB.refl {B : Nat} (w : World) : RB B w w := ⟨Below.refl _ _, fun _ _ _ h => h, fun _ h => h⟩
theorem RB.trans {B : Nat} : ∀ a b c, RB B a b → RB B b c → RB B a c := fun _ _ _ h1 h2 => ⟨h1.bl.trans h2.bl, fun a n xs h => h2.rows a n xs (h1.rows a n xs h), fun q h => h2.box q (h1.box q h)⟩
theorem RB.drew {B : Nat} (w : World) : RB B w { w with drawn := w.drawn + 1 } := ⟨(Below.refl _ _).drew, fun _ _ _ h => h, fun _ h => h⟩
theorem RB.of {B : Nat} {w w' : World} (hb : Below w.heap.size w w') (hB : B ≤ w.heap.size) : RB B w w' :=
  ⟨hb.mono hB, fun _ _ _ h => h.below hb (Nat.le_refl _), fun _ ⟨u, g, n, c, h⟩ => ⟨u, g, n, c, h.below hb h.lt⟩⟩
theorem RB.put {B : Nat} {w : World} {q : Nat} (hB : Bx w q) (hq : B ≤ q) (u : Bool) (g : Option Addr) (n c : Nat) : RB B w ((w.setCell ⟨q, 0, none⟩ (.bool u)).setCell ⟨q, 1, none⟩ (.slice g n c)) := by
  refine ⟨((Below.refl _ _).setCell (by simpa using hq) _).setCell (by simpa using hq) _, fun a n xs h => irow_bx hB h _ _, fun q' h => ?_⟩
  by_cases e : q' = q
  · subst e
    obtain ⟨u0, g0, n0, c0, hB⟩ := hB
    exact ⟨u, g, n, c, (hB.set 0 _).set 1 _⟩
  · obtain ⟨u0, g0, n0, c0, h⟩ := h
    exact ⟨u0, g0, n0, c0, (h.other e _).other e _⟩
def MPbig (B : Nat) (neg : Bool) (L : List Int) : RJ.MP (RB B) := ⟨fun v w => ∃ g c, v = .agg #[.bool neg, .slice g L.length c] ∧ IRow w g L.length L ∧ L.length ≤ c ∧ (g = none → c = 0), fun _ _ _ ⟨g, c, h1, h2, h3⟩ hr => ⟨g, c, h1, hr.rows _ _ _ h2, h3⟩⟩
def MPtwo (B : Nat) (n1 : Bool) (L : List Int) (n2 : Bool) (K : List Int) : RJ.MP (RB B) := ⟨fun v w => ∃ g c p d, v = .tuple #[.agg #[.bool n1, .slice g L.length c], .agg #[.bool n2, .slice p K.length d]] ∧ IRow w g L.length L ∧ IRow w p K.length K ∧ (L.length ≤ c ∧ (g = none → c = 0)) ∧ K.length ≤ d ∧ (p = none → d = 0), fun _ _ _ ⟨g, c, p, d, h1, h2, h3, h4⟩ hr => ⟨g, c, p, d, h1, hr.rows _ _ _ h2, hr.rows _ _ _ h3, h4⟩⟩
def MPbx (B : Nat) : RJ.MP (RB B) := ⟨fun v w => ∃ q, v = .pointer (some ⟨q, 0, none⟩) ∧ B ≤ q ∧ Bx w q, fun _ _ _ ⟨q, h1, h2, h3⟩ hr => ⟨q, h1, h2, hr.box q h3⟩⟩
/-- Two boxes are two; the first one's store. -/
structure JV (x : Nat → Value) (w : World) : Prop where
  a : ∀ q, x 11 = .pointer (some ⟨q, 0, none⟩) → q < w.heap.size ∧ x 12 ≠ .pointer (some ⟨q, 0, none⟩)
  c : ∀ q, x 12 = .pointer (some ⟨q, 0, none⟩) → q < w.heap.size
  b : x 13 = .bool true → ∃ q u v, x 11 = .pointer (some ⟨q, 0, none⟩) ∧ x 9 = .agg #[u, v] ∧ Blk w q #[u, v] 37
theorem JV.pre {x : Nat → Value} {w w' : World} (h : JV x w) (h13 : x 13 = undef) {i : Nat} (hi : (i != 11 && i != 12 && i != 13) = true) (v : Value) (hs : w.heap.size ≤ w'.heap.size) : JV (upd x i v) w' := by
  simp only [Bool.and_eq_true, bne_iff_ne] at hi
  have e11 : upd x i v 11 = x 11 := by simp [upd]; omega
  have e12 : upd x i v 12 = x 12 := by simp [upd]; omega
  have e13 : upd x i v 13 = x 13 := by simp [upd]; omega
  refine ⟨fun q hq => ?_, fun q hq => ?_, fun h' => ?_⟩
  · rw [e11] at hq
    rw [e12]
    exact ⟨Nat.lt_of_lt_of_le (h.a q hq).1 hs, (h.a q hq).2⟩
  · rw [e12] at hq
    exact Nat.lt_of_lt_of_le (h.c q hq) hs
  · rw [e13, h13] at h'
    simp [undef] at h'
theorem JV.ten {x : Nat → Value} {w : World} (h : JV x w) (v : Value) : JV (upd x 10 v) w := by
  have e9 : upd x 10 v 9 = x 9 := by simp [upd]
  have e11 : upd x 10 v 11 = x 11 := by simp [upd]
  have e12 : upd x 10 v 12 = x 12 := by simp [upd]
  have e13 : upd x 10 v 13 = x 13 := by simp [upd]
  exact ⟨fun q hq => by rw [e11] at hq; rw [e12]; exact h.a q hq, fun q hq => by rw [e12] at hq; exact h.c q hq, fun h' => by rw [e13] at h'; rw [e9, e11]; exact h.b h'⟩
theorem JV.n11 {x : Nat → Value} {w : World} (h : JV x w) (h13 : x 13 = undef) (o : Obj) : JV (upd x 11 (.pointer (some ⟨w.heap.size, 0, none⟩))) (w.alloc o) := by
  have e11 : upd x 11 (.pointer (some ⟨w.heap.size, 0, none⟩)) 11 = .pointer (some ⟨w.heap.size, 0, none⟩) := by simp [upd]
  have e12 : upd x 11 (.pointer (some ⟨w.heap.size, 0, none⟩)) 12 = x 12 := by simp [upd]
  have e13 : upd x 11 (.pointer (some ⟨w.heap.size, 0, none⟩)) 13 = x 13 := by simp [upd]
  refine ⟨fun q hq => ?_, fun q hq => ?_, fun h' => ?_⟩
  · rw [e11] at hq
    have hq := ptr_inj hq
    subst hq
    rw [e12]
    refine ⟨by simp, fun hx => ?_⟩
    have := h.c _ hx
    omega
  · rw [e12] at hq
    have := h.c q hq
    simp; omega
  · rw [e13, h13] at h'
    simp [undef] at h'
theorem JV.n12 {x : Nat → Value} {w : World} (h : JV x w) (h13 : x 13 = undef) (o : Obj) : JV (upd x 12 (.pointer (some ⟨w.heap.size, 0, none⟩))) (w.alloc o) := by
  have e11 : upd x 12 (.pointer (some ⟨w.heap.size, 0, none⟩)) 11 = x 11 := by simp [upd]
  have e12 : upd x 12 (.pointer (some ⟨w.heap.size, 0, none⟩)) 12 = .pointer (some ⟨w.heap.size, 0, none⟩) := by simp [upd]
  have e13 : upd x 12 (.pointer (some ⟨w.heap.size, 0, none⟩)) 13 = x 13 := by simp [upd]
  refine ⟨fun q hq => ?_, fun q hq => ?_, fun h' => ?_⟩
  · rw [e11] at hq
    have h1 := (h.a q hq).1
    rw [e12]
    refine ⟨by simp; omega, fun hx => ?_⟩
    have := ptr_inj hx
    omega
  · rw [e12] at hq
    have := ptr_inj hq
    simp; omega
  · rw [e13, h13] at h'
    simp [undef] at h'
theorem JV.put {x : Nat → Value} {w w' : World} (h : JV x w) (hs : w.heap.size ≤ w'.heap.size) {q : Nat} {u v : Value} (h11 : x 11 = .pointer (some ⟨q, 0, none⟩)) (h9 : x 9 = .agg #[u, v]) (hB : Blk w' q #[u, v] 37) : JV (upd x 13 (.bool true)) w' := by
  have e9 : upd x 13 (.bool true) 9 = x 9 := by simp [upd]
  have e11 : upd x 13 (.bool true) 11 = x 11 := by simp [upd]
  have e12 : upd x 13 (.bool true) 12 = x 12 := by simp [upd]
  refine ⟨fun q hq => ?_, fun q hq => ?_, fun _ => ?_⟩
  · rw [e11] at hq
    rw [e12]
    exact ⟨Nat.lt_of_lt_of_le (h.a q hq).1 hs, (h.a q hq).2⟩
  · rw [e12] at hq
    exact Nat.lt_of_lt_of_le (h.c q hq) hs
  · rw [e9, e11]
    exact ⟨q, u, v, h11, h9, hB⟩
set_option maxRecDepth 100000 in
set_option maxHeartbeats 1000000 in
theorem do3_any (n k : Int) (s t : Nat) (ha : Rt n s) (hB : Rt k t) (w : World) : Calls Tryz.prog 29 #[.int .i64 3, .int .i64 n, .int .i64 (s : Int), .int .i64 k, .int .i64 (t : Int)] w fun e w' =>
    e = .returned (.tuple #[.int .i64 (divF n s k t).1, .int .i64 (divF n s k t).2.1, .int .i64 (divF n s k t).2.2]) ∧ Below w.heap.size w w' := by
  obtain ⟨na, nb, gX, nX, lX⟩ := rt_digs ha
  obtain ⟨ka, kb, gY, nY, lY⟩ := rt_digs hB
  have s9 : s ≤ 9 := by have := ha.s9; omega
  have t9 : t ≤ 9 := by have := hB.s9; omega
  clear ha hB
  obtain ⟨M, hM⟩ : ∃ M, M = max s t := ⟨_, rfl⟩
  have hM9 : M ≤ 9 := by omega
  have hmax : max (s : Int) (t : Int) = (M : Int) := by omega
  have hmax2 : max s t = M := hM.symm
  have sM : s ≤ M := by omega
  have tM : t ≤ M := by omega
  have HM := Lib.hid hM
  clear hM
  have q1 : ((M - s : Nat) : Int) = (M : Int) - (s : Int) := by omega
  have q2 : ((M - t : Nat) : Int) = (M : Int) - (t : Int) := by omega
  have j1 : IntKind.i64.wrap ((M : Int) - (s : Int)) = (M : Int) - (s : Int) := IntWalk.i64_in _ (by omega)
  have j2 : IntKind.i64.wrap ((M : Int) - (t : Int)) = (M : Int) - (t : Int) := IntWalk.i64_in _ (by omega)
  have vX := sgnD_digs n
  have vY := sgnD_digs k
  have OA := Lib.hid (fun w => of_big n na nb w)
  have OB := Lib.hid (fun w => of_big k ka kb w)
  have hk0 : dval (digs k.natAbs) = (k.natAbs : Int) := (digs_spec _).1
  obtain ⟨b1, hb1⟩ : ∃ b1, b1 = decide (n < 0) := ⟨_, rfl⟩
  obtain ⟨b2, hb2⟩ : ∃ b2, b2 = decide (k < 0) := ⟨_, rfl⟩
  obtain ⟨X, hX⟩ : ∃ X, X = digs n.natAbs := ⟨_, rfl⟩
  obtain ⟨Y, hY⟩ : ∃ Y, Y = digs k.natAbs := ⟨_, rfl⟩
  rw [← hb1, ← hX] at OA vX
  rw [← hb2, ← hY] at OB vY
  rw [← hX] at gX nX lX
  rw [← hY] at gY nY lY hk0
  clear hb1 hb2 hX hY na nb ka kb
  have uX := sgnD_up (neg := b1) gX nX (M - s)
  have uY := sgnD_up (neg := b2) gY nY (M - t)
  obtain ⟨-, gU, nU, lU⟩ := upL_spec gX nX (M - s)
  obtain ⟨vV, gV, nV, lV⟩ := upL_spec gY nY (M - t)
  have UX := Lib.hid (fun g c w h h1 h2 => up_big b1 g c X (M - s) w h h1 h2 (by omega) (by omega))
  have UY := Lib.hid (fun g c w h h1 h2 => up_big b2 g c Y (M - t) w h h1 h2 (by omega) (by omega))
  rw [vX] at uX
  rw [vY] at uY
  obtain ⟨U, hU⟩ : ∃ U, U = upL X (M - s) := ⟨_, rfl⟩
  obtain ⟨V, hV⟩ : ∃ V, V = upL Y (M - t) := ⟨_, rfl⟩
  rw [← hU] at uX gU nU lU UX
  rw [← hV] at uY gV nV lV UY vV
  have lU2 : U.length ≤ 28 := by omega
  have lV2 : V.length ≤ 28 := by omega
  simp only [q1] at UX
  simp only [q2] at UY
  clear hU hV lU lV q1 q2
  cases ek : (k == 0)
  · have hk' : k ≠ 0 := by simpa using ek
    have hkY : 0 < dval Y := by
      rcases Int.lt_or_le 0 (dval Y) with h | h
      · exact h
      · have h1 := dval_nonneg gY
        have h2 : sgnD b2 Y = 0 := by rw [sgnD_val gY]; split <;> omega
        omega
    have nY0 : Y ≠ [] := fun h => by rw [h] at hkY; simp [dval] at hkY
    have uT := sgnD_up (neg := b1) gX nX (9 + t - s)
    obtain ⟨-, gT, nT, lT⟩ := upL_spec gX nX (9 + t - s)
    rw [vX] at uT
    have UT := Lib.hid (fun g c w h h1 h2 => up_big b1 g c X (9 + t - s) w h h1 h2 (by omega) (by omega))
    have q3 : ((9 + t - s : Nat) : Int) = 9 + (t : Int) - (s : Int) := by omega
    simp only [q3] at UT
    obtain ⟨T, hT⟩ : ∃ T, T = upL X (9 + t - s) := ⟨_, rfl⟩
    rw [← hT] at uT gT nT lT UT
    have lT2 : T.length ≤ 40 := by omega
    obtain ⟨gQ, gR', lQ, lR, hsQ, hsR⟩ := quo_spec b1 b2 gT gY hkY
    have DV := Lib.hid (fun a b c d w h1 h2 => div_big b1 b2 a b c d T Y w h1 h2 gT gY nY nY0 (by omega) (by omega))
    rw [uT, vY] at hsQ
    obtain ⟨nl, hnq⟩ : ∃ nq, nq = (!(b1 == b2)) := ⟨_, rfl⟩
    obtain ⟨L, hQ⟩ : ∃ Q, Q = digs ((dval T).toNat / (dval Y).toNat) := ⟨_, rfl⟩
    obtain ⟨R, hR⟩ : ∃ R, R = digs ((dval T).toNat % (dval Y).toNat) := ⟨_, rfl⟩
    rw [← hnq, ← hQ, ← hR] at DV
    rw [← hnq, ← hQ] at hsQ
    rw [← hQ] at gQ lQ
    have gL := gQ
    have lL : L.length ≤ 40 := by omega
    have j5 : IntKind.i64.wrap (9 + (t : Int)) = 9 + (t : Int) := IntWalk.i64_in _ (by omega)
    have j6 : IntKind.i64.wrap (9 + (t : Int) - (s : Int)) = 9 + (t : Int) - (s : Int) := IntWalk.i64_in _ (by omega)
    clear hkY nY0 uT q3 hT lT gQ gR' lQ lR hsR hnq hQ hR gT nT
    have hfit : (if (fitD (nl) (L) (9)).2.2 then ((fitD (nl) (L) (9)).1, (fitD (nl) (L) (9)).2.1, (0 : Int)) else (0, 0, 53)) = divF n s k t := by
      rw [fit_sgn (nl) gL (9)]
      rw [hsQ]
      exact doc_div n k s t s9 hk'
    obtain ⟨r1, r2, r3, hr⟩ : ∃ r1 r2 r3, divF n s k t = (r1, r2, r3) := ⟨_, _, _, rfl⟩
    rw [hr] at hfit ⊢
    obtain ⟨f1, f2, f3, hf⟩ : ∃ f1 f2 f3, fitD (nl) (L) (9) = (f1, f2, f3) := ⟨_, _, _, rfl⟩
    rw [hf] at hfit
    have FT := Lib.hid (fun g c w h1 h2 h3 => fit_big nl g c L (9) w h1 h2 h3 gL (by omega) (by omega) hf)
    have q9 : ((9 : Nat) : Int) = 9 := rfl
    simp only [q9] at FT
    clear q9 hf hr vX vY uX uY gX gY gU gV gL nX nY nU nV vV hk0 hsQ hk'
    cases f3
    · simp only [Bool.false_eq_true, if_false, if_true, Prod.mk.injEq] at hfit
      obtain ⟨rfl, rfl, rfl⟩ := hfit
      have hw : Below w.heap.size w w := Below.refl _ _
      go_enter Tryz.func29, Tryz.ntmps29
      go_upto_region 21 with (first
        | (go_at_call 15
           with_reducible refine (OA.out _).mono ?_
           rintro e w1 ⟨g1, c1, rfl, IX, hc1, hn1, -, hb⟩
           have hs := hb
           have hw1 : Below w.heap.size w w1 := hw.trans (hs.mono hw.size)
           have Xw1 := Lib.hid IX
           clear IX
           clear hb hs)
        | (go_at_call 15
           with_reducible refine (OB.out _).mono ?_
           rintro e w2 ⟨g2, c2, rfl, IY, hc2, hn2, -, hb⟩
           have hs : Below w1.heap.size w1 w2 := ((Below.refl _ _).alloc (Nat.le_refl _) _).trans (hb.mono (by simp; try omega))
           have hw2 : Below w.heap.size w w2 := hw1.trans (hs.mono hw1.size)
           have Aw2 : Blk w2 w1.heap.size #[.bool b1, .slice g1 X.length c1] 37 := (Blk.here rfl rfl).below hb (by simp; try omega)
           have Xw2 := Lib.hid (Xw1.out.below hs (Nat.le_refl _))
           have Yw2 := Lib.hid IY
           clear IY
           clear hb hs Xw1
           obtain ⟨cA0, cA1, fA0, fA1⟩ := Aw2.two
           have kAw2 : w1.heap.size < w2.heap.size := Aw2.lt)
        | (go_at_call 50
           with_reducible refine (UX.out g1 c1 _ (Xw2.out.below ((Below.refl _ _).alloc (Nat.le_refl _) _) (Nat.le_refl _)) hc1 hn1).mono ?_
           rintro e w3 ⟨g3, c3, rfl, IU, hc3, hn3, -, hb⟩
           have hs : Below w2.heap.size w2 w3 := ((Below.refl _ _).alloc (Nat.le_refl _) _).trans (hb.mono (by simp; try omega))
           have hw3 : Below w.heap.size w w3 := hw2.trans (hs.mono hw2.size)
           have Aw3 := Aw2.below hs kAw2
           have Bw3 : Blk w3 w2.heap.size #[.bool b2, .slice g2 Y.length c2] 37 := (Blk.here rfl rfl).below hb (by simp; try omega)
           have Xw3 := Lib.hid (Xw2.out.below hs (Nat.le_refl _))
           have Yw3 := Lib.hid (Yw2.out.below hs (Nat.le_refl _))
           have Uw3 := Lib.hid IU
           clear IU
           clear hb hs Aw2 kAw2 cA0 cA1 fA0 fA1 Xw2 Yw2
           obtain ⟨cA0, cA1, fA0, fA1⟩ := Aw3.two
           have kAw3 : w1.heap.size < w3.heap.size := Aw3.lt
           obtain ⟨cB0, cB1, fB0, fB1⟩ := Bw3.two
           have kBw3 : w2.heap.size < w3.heap.size := Bw3.lt)
        | (go_at_call 50
           with_reducible refine (UY.out g2 c2 _ (Yw3.out.below ((Below.refl _ _).alloc (Nat.le_refl _) _) (Nat.le_refl _)) hc2 hn2).mono ?_
           rintro e w4 ⟨g4, c4, rfl, IV, hc4, hn4, -, hb⟩
           have hs : Below w3.heap.size w3 w4 := ((Below.refl _ _).alloc (Nat.le_refl _) _).trans (hb.mono (by simp; try omega))
           have hw4 : Below w.heap.size w w4 := hw3.trans (hs.mono hw3.size)
           have Aw4 := Aw3.below hs kAw3
           have Bw4 := Bw3.below hs kBw3
           have Cw4 : Blk w4 w3.heap.size #[.bool b1, .slice g3 U.length c3] 37 := (Blk.here rfl rfl).below hb (by simp; try omega)
           have Xw4 := Lib.hid (Xw3.out.below hs (Nat.le_refl _))
           have Yw4 := Lib.hid (Yw3.out.below hs (Nat.le_refl _))
           have Uw4 := Lib.hid (Uw3.out.below hs (Nat.le_refl _))
           have Vw4 := Lib.hid IV
           clear IV
           clear hb hs Aw3 kAw3 cA0 cA1 fA0 fA1 Bw3 kBw3 cB0 cB1 fB0 fB1 Xw3 Yw3 Uw3
           obtain ⟨cA0, cA1, fA0, fA1⟩ := Aw4.two
           have kAw4 : w1.heap.size < w4.heap.size := Aw4.lt
           obtain ⟨cB0, cB1, fB0, fB1⟩ := Bw4.two
           have kBw4 : w2.heap.size < w4.heap.size := Bw4.lt
           obtain ⟨cC0, cC1, fC0, fC1⟩ := Cw4.two
           have kCw4 : w3.heap.size < w4.heap.size := Cw4.lt))
      refine wp_worldD ?_
      intro w5 hw5e
      have hs : Below w4.heap.size w4 w5 := by rw [hw5e]; exact ((Below.refl _ _).alloc (Nat.le_refl _) _).alloc (by simp) _
      have hw5 : Below w.heap.size w w5 := hw4.trans (hs.mono hw4.size)
      have Aw5 := Aw4.below hs kAw4
      have Bw5 := Bw4.below hs kBw4
      have Rw5 : Blk w5 (w4.heap.size + 1) #[.bool false, .slice none 0 0] 37 := by rw [hw5e]; exact Blk.here rfl (by simp)
      have Xw5 := Lib.hid (Xw4.out.below hs (Nat.le_refl _))
      have Yw5 := Lib.hid (Yw4.out.below hs (Nat.le_refl _))
      clear hs hw5e cA0 cA1 fA0 fA1 cB0 cB1 fB0 fB1 cC0 cC1 fC0 fC1 Aw4 Bw4 Cw4 kAw4 kBw4 kCw4 Xw4 Yw4 Uw4 Vw4
      have kAw5 : w1.heap.size < w5.heap.size := Aw5.lt
      have kBw5 : w2.heap.size < w5.heap.size := Bw5.lt
      have kRw5 : (w4.heap.size + 1) < w5.heap.size := Rw5.lt
      refine RJ.region_steps (R := (RB w5.heap.size)) 14 [some 85, some 86, some 87, some 88, some 89, some 90, some 91, some 92, some 84, some 93, some 94, some 19, some 20, none] JV RB.trans RB.drew ⟨fun q hq => by simp [orig, undef] at hq, fun q hq => by simp [orig, undef] at hq, fun h => by simp [orig, undef] at h⟩ (by kernel_rfl) (by kernel_rfl) ?_
      -- 0: Op.load 37 (Operand.tmp 13)
      refine RJ.ls_genO (RJ.MP.val (.agg #[.bool b1, .slice g1 X.length c1])) ?_ ?_
      · intro x w' hb hj hpre ho K hK
        have h13 := ho 13 (by omega) (.inr (by kernel_rfl))
        simp [orig] at h13
        clear ho
        obtain ⟨z00, z01, -, -⟩ := (Aw5.below hb.bl kAw5).two
        obtain ⟨z10, z11, -, -⟩ := (Bw5.below hb.bl kBw5).two
        clear hpre
        simp only [frL, Act.put, List.setIfInBounds_toArray, List.set_cons_zero, List.set_cons_succ, Nat.zero_add, Nat.reduceAdd] at hK ⊢
        have HK := Lib.hid hK
        clear hK
        refine Held.mk ?_
        go_simp
        exact HK.out _ _ rfl (hj.pre h13 (by decide) _ (Nat.le_refl _)) (RB.refl _)
      -- 1: Op.move (Operand.tmp 4)
      refine RJ.ls_genO (RJ.MP.val (.int .i64 (t : Int))) ?_ ?_
      · intro x w' hb hj hpre ho K hK
        have h13 := ho 13 (by omega) (.inr (by kernel_rfl))
        simp [orig] at h13
        clear ho
        obtain ⟨z00, z01, -, -⟩ := (Aw5.below hb.bl kAw5).two
        obtain ⟨z10, z11, -, -⟩ := (Bw5.below hb.bl kBw5).two
        clear hpre
        simp only [frL, Act.put, List.setIfInBounds_toArray, List.set_cons_zero, List.set_cons_succ, Nat.zero_add, Nat.reduceAdd] at hK ⊢
        have HK := Lib.hid hK
        clear hK
        refine Held.mk ?_
        go_simp
        exact HK.out _ _ rfl (hj.pre h13 (by decide) _ (Nat.le_refl _)) (RB.refl _)
      -- 2: Op.binOp BinOp.add 3 (Operand.const (Value.int IntKind.i64 9)) (Operand.tmp 86) 
      refine RJ.ls_genO (RJ.MP.val (.int .i64 (9 + (t : Int)))) ?_ ?_
      · intro x w' hb hj hpre ho K hK
        have h13 := ho 13 (by omega) (.inr (by kernel_rfl))
        simp [orig] at h13
        clear ho
        obtain ⟨z00, z01, -, -⟩ := (Aw5.below hb.bl kAw5).two
        obtain ⟨z10, z11, -, -⟩ := (Bw5.below hb.bl kBw5).two
        simp [preds, Region.binds, RJ.phi, RJ.MP.val] at hpre
        simp only [frL, Act.put, List.setIfInBounds_toArray, List.set_cons_zero, List.set_cons_succ, Nat.zero_add, Nat.reduceAdd, hpre] at hK ⊢
        have HK := Lib.hid hK
        clear hK
        refine Held.mk ?_
        go_simp
        exact HK.out _ _ rfl (hj.pre h13 (by decide) _ (Nat.le_refl _)) (RB.refl _)
      -- 3: Op.move (Operand.tmp 2)
      refine RJ.ls_genO (RJ.MP.val (.int .i64 (s : Int))) ?_ ?_
      · intro x w' hb hj hpre ho K hK
        have h13 := ho 13 (by omega) (.inr (by kernel_rfl))
        simp [orig] at h13
        clear ho
        obtain ⟨z00, z01, -, -⟩ := (Aw5.below hb.bl kAw5).two
        obtain ⟨z10, z11, -, -⟩ := (Bw5.below hb.bl kBw5).two
        clear hpre
        simp only [frL, Act.put, List.setIfInBounds_toArray, List.set_cons_zero, List.set_cons_succ, Nat.zero_add, Nat.reduceAdd] at hK ⊢
        have HK := Lib.hid hK
        clear hK
        refine Held.mk ?_
        go_simp
        exact HK.out _ _ rfl (hj.pre h13 (by decide) _ (Nat.le_refl _)) (RB.refl _)
      -- 4: Op.binOp BinOp.sub 3 (Operand.tmp 87) (Operand.tmp 88) 3
      refine RJ.ls_genO (RJ.MP.val (.int .i64 (9 + (t : Int) - (s : Int)))) ?_ ?_
      · intro x w' hb hj hpre ho K hK
        have h13 := ho 13 (by omega) (.inr (by kernel_rfl))
        simp [orig] at h13
        clear ho
        obtain ⟨z00, z01, -, -⟩ := (Aw5.below hb.bl kAw5).two
        obtain ⟨z10, z11, -, -⟩ := (Bw5.below hb.bl kBw5).two
        simp [preds, Region.binds, RJ.phi, RJ.MP.val] at hpre
        simp only [frL, Act.put, List.setIfInBounds_toArray, List.set_cons_zero, List.set_cons_succ, Nat.zero_add, Nat.reduceAdd, hpre] at hK ⊢
        have HK := Lib.hid hK
        clear hK
        refine Held.mk ?_
        go_simp
        exact HK.out _ _ rfl (hj.pre h13 (by decide) _ (Nat.le_refl _)) (RB.refl _)
      -- 5: Op.call { callee := Callee.value (Operand.func 50), args := #[Operand.tmp 85, Op
      refine RJ.ls_genO (MPbig w5.heap.size b1 T) ?_ ?_
      · intro x w' hb hj hpre ho K hK
        have h13 := ho 13 (by omega) (.inr (by kernel_rfl))
        simp [orig] at h13
        clear ho
        simp [preds, Region.binds, RJ.phi, RJ.MP.val, MPbig, MPtwo, MPbx] at hpre
        simp only [frL, Act.put, List.setIfInBounds_toArray, List.set_cons_zero, List.set_cons_succ, Nat.zero_add, Nat.reduceAdd, hpre] at hK ⊢
        have HK := Lib.hid hK
        clear hK
        refine Held.mk ?_
        go_simp
        refine (UT.out g1 c1 w' (hb.rows _ _ _ Xw5.out) hc1 hn1).mono ?_
        rintro e w1 ⟨g3, c3, rfl, hI, hc, hn, -, hb1⟩
        dsimp only
        exact HK.out _ _ ⟨g3, c3, rfl, hI, hc, hn⟩ (hj.pre h13 (by decide) _ hb1.size) (RB.of hb1 (Below.size hb.bl))
      -- 6: Op.load 37 (Operand.tmp 14)
      refine RJ.ls_genO (RJ.MP.val (.agg #[.bool b2, .slice g2 Y.length c2])) ?_ ?_
      · intro x w' hb hj hpre ho K hK
        have h13 := ho 13 (by omega) (.inr (by kernel_rfl))
        simp [orig] at h13
        clear ho
        obtain ⟨z00, z01, -, -⟩ := (Aw5.below hb.bl kAw5).two
        obtain ⟨z10, z11, -, -⟩ := (Bw5.below hb.bl kBw5).two
        clear hpre
        simp only [frL, Act.put, List.setIfInBounds_toArray, List.set_cons_zero, List.set_cons_succ, Nat.zero_add, Nat.reduceAdd] at hK ⊢
        have HK := Lib.hid hK
        clear hK
        refine Held.mk ?_
        go_simp
        exact HK.out _ _ rfl (hj.pre h13 (by decide) _ (Nat.le_refl _)) (RB.refl _)
      -- 7: Op.call { callee := Callee.value (Operand.func 53), args := #[Operand.tmp 90, Op
      refine RJ.ls_genO (MPtwo w5.heap.size nl L b1 R) ?_ ?_
      · intro x w' hb hj hpre ho K hK
        have h13 := ho 13 (by omega) (.inr (by kernel_rfl))
        simp [orig] at h13
        clear ho
        simp [preds, Region.binds, RJ.phi, RJ.MP.val, MPbig, MPtwo, MPbx] at hpre
        obtain ⟨⟨g3, c3, hp5, hI5, hc5, hn5⟩, hp6⟩ := hpre
        simp only [frL, Act.put, List.setIfInBounds_toArray, List.set_cons_zero, List.set_cons_succ, Nat.zero_add, Nat.reduceAdd, hp5, hp6] at hK ⊢
        have HK := Lib.hid hK
        clear hK
        refine Held.mk ?_
        go_simp
        refine (DV.out g3 g2 c3 c2 w' hI5 (hb.rows _ _ _ Yw5.out)).mono ?_
        rintro e w1 ⟨gq, cq, gr, cr, rfl, hIq, hcq, hnq, -, hIr, hcr, hnr, -, hb1⟩
        dsimp only
        exact HK.out _ _ ⟨gq, cq, gr, cr, rfl, hIq, hIr, ⟨hcq, hnq⟩, hcr, hnr⟩ (hj.pre h13 (by decide) _ hb1.size) (RB.of hb1 (Below.size hb.bl))
      -- 8: Op.move (Operand.tmp 92)
      refine RJ.ls_genO (MPtwo w5.heap.size nl L b1 R) ?_ ?_
      · intro x w' hb hj hpre ho K hK
        have h13 := ho 13 (by omega) (.inr (by kernel_rfl))
        simp [orig] at h13
        clear ho
        simp [preds, Region.binds, RJ.phi, RJ.MP.val, MPbig, MPtwo, MPbx] at hpre
        obtain ⟨gq, cq, gr, cr, hp, hI⟩ := hpre
        simp only [frL, Act.put, List.setIfInBounds_toArray, List.set_cons_zero, List.set_cons_succ, Nat.zero_add, Nat.reduceAdd, hp] at hK ⊢
        have HK := Lib.hid hK
        clear hK
        refine Held.mk ?_
        go_simp
        exact HK.out _ _ ⟨gq, cq, gr, cr, rfl, hI⟩ (hj.pre h13 (by decide) _ (Nat.le_refl _)) (RB.refl _)
      -- 9: Op.extract (Operand.tmp 84) 0
      refine RJ.ls_genO (MPbig w5.heap.size nl L) ?_ ?_
      · intro x w' hb hj hpre ho K hK
        have h13 := ho 13 (by omega) (.inr (by kernel_rfl))
        simp [orig] at h13
        clear ho
        simp [preds, Region.binds, RJ.phi, RJ.MP.val, MPbig, MPtwo, MPbx] at hpre
        obtain ⟨gq, cq, gr, cr, hp, hI1, hI2, h1, h2⟩ := hpre
        simp only [frL, Act.put, List.setIfInBounds_toArray, List.set_cons_zero, List.set_cons_succ, Nat.zero_add, Nat.reduceAdd, hp] at hK ⊢
        have HK := Lib.hid hK
        clear hK
        refine Held.mk ?_
        go_simp
        exact HK.out _ _ ⟨gq, cq, rfl, hI1, h1⟩ (hj.pre h13 (by decide) _ (Nat.le_refl _)) (RB.refl _)
      -- 10: Op.extract (Operand.tmp 84) 1
      refine RJ.ls_gen (MPbig w5.heap.size b1 R) ?_ ?_
      · intro x w' hb hj hpre K hK
        simp [preds, Region.binds, RJ.phi, RJ.MP.val, MPbig, MPtwo, MPbx] at hpre
        obtain ⟨gq, cq, gr, cr, hp, hI1, hI2, h1, h2⟩ := hpre
        simp only [frL, Act.put, List.setIfInBounds_toArray, List.set_cons_zero, List.set_cons_succ, Nat.zero_add, Nat.reduceAdd, hp] at hK ⊢
        have HK := Lib.hid hK
        clear hK
        refine Held.mk ?_
        go_simp
        exact HK.out _ _ ⟨gr, cr, rfl, hI2, h2⟩ (hj.ten _) (RB.refl _)
      -- 11: Op.alloc 37
      refine RJ.ls_genO (MPbx w5.heap.size) ?_ ?_
      · intro x w' hb hj hpre ho K hK
        have h13 := ho 13 (by omega) (.inr (by kernel_rfl))
        simp [orig] at h13
        clear ho
        obtain ⟨z00, z01, -, -⟩ := (Aw5.below hb.bl kAw5).two
        obtain ⟨z10, z11, -, -⟩ := (Bw5.below hb.bl kBw5).two
        clear hpre
        simp only [frL, Act.put, List.setIfInBounds_toArray, List.set_cons_zero, List.set_cons_succ, Nat.zero_add, Nat.reduceAdd] at hK ⊢
        have HK := Lib.hid hK
        clear hK
        refine Held.mk ?_
        go_simp
        exact HK.out _ _ ⟨_, rfl, Below.size hb.bl, _, _, _, _, Blk.new _ _ _⟩ (hj.n11 h13 _) (RB.of ((Below.refl _ _).alloc (Nat.le_refl _) _) (Below.size hb.bl))
      -- 12: Op.alloc 37
      refine RJ.ls_genO (MPbx w5.heap.size) ?_ ?_
      · intro x w' hb hj hpre ho K hK
        have h13 := ho 13 (by omega) (.inr (by kernel_rfl))
        simp [orig] at h13
        clear ho
        obtain ⟨z00, z01, -, -⟩ := (Aw5.below hb.bl kAw5).two
        obtain ⟨z10, z11, -, -⟩ := (Bw5.below hb.bl kBw5).two
        clear hpre
        simp only [frL, Act.put, List.setIfInBounds_toArray, List.set_cons_zero, List.set_cons_succ, Nat.zero_add, Nat.reduceAdd] at hK ⊢
        have HK := Lib.hid hK
        clear hK
        refine Held.mk ?_
        go_simp
        exact HK.out _ _ ⟨_, rfl, Below.size hb.bl, _, _, _, _, Blk.new _ _ _⟩ (hj.n12 h13 _) (RB.of ((Below.refl _ _).alloc (Nat.le_refl _) _) (Below.size hb.bl))
      -- 13: Op.store 37 (Operand.tmp 19) (Operand.tmp 93)
      refine RJ.ls_genO (RJ.MP.val (.bool true)) ?_ ?_
      · intro x w' hb hj hpre ho K hK
        clear ho
        simp [preds, Region.binds, RJ.phi, RJ.MP.val, MPbig, MPtwo, MPbx] at hpre
        obtain ⟨⟨q, hp11, hq, hBx⟩, ⟨g5, c5, hp9, hI9, -⟩, -⟩ := hpre
        obtain ⟨u0, g0, n0, c0, hS⟩ := id hBx
        obtain ⟨d0, d1, d2, d3⟩ := hS.two
        have dk : q < w'.heap.size := hS.lt
        simp only [frL, Act.put, List.setIfInBounds_toArray, List.set_cons_zero, List.set_cons_succ, Nat.zero_add, Nat.reduceAdd, hp11, hp9] at hK ⊢
        have HK := Lib.hid hK
        clear hK
        refine Held.mk ?_
        go_simp
        exact HK.out (.bool true) _ rfl (hj.put (by simp) hp11 hp9 ((hS.set 0 _).set 1 _)) (RB.put hBx hq _ _ _ _)
      intro x w' hb hp hJ
      simp only [List.cons_append, List.nil_append, RJ.phis, RJ.MP.val, frL, Act.put, List.setIfInBounds_toArray, List.set_cons_zero, List.set_cons_succ, Nat.zero_add, Nat.reduceAdd] at hp ⊢
      obtain ⟨h0, h1, h2, h3, h4, h5, h6, h7, h8, h9, h10, h11, h12, h13, -⟩ := hp
      obtain ⟨q, u, v, e11, e9, hBq⟩ := hJ.b h13
      obtain ⟨g5, c5, e9', IL, hc5, hn5⟩ : ∃ g c, x 9 = .agg #[.bool nl, .slice g L.length c] ∧ IRow w' g L.length L ∧ L.length ≤ c ∧ (g = none → c = 0) := h9
      obtain ⟨g6, c6, e10, -⟩ : ∃ g c, x 10 = .agg #[.bool b1, .slice g R.length c] ∧ IRow w' g R.length R ∧ R.length ≤ c ∧ (g = none → c = 0) := h10
      obtain ⟨q2, e12, hq2, hBx2⟩ : ∃ q, x 12 = .pointer (some ⟨q, 0, none⟩) ∧ w5.heap.size ≤ q ∧ Bx w' q := h12
      obtain ⟨q', e11', hq1, -⟩ : ∃ q, x 11 = .pointer (some ⟨q, 0, none⟩) ∧ w5.heap.size ≤ q ∧ Bx w' q := h11
      have hqq : q' = q := by rw [e11] at e11'; exact (ptr_inj e11').symm
      subst hqq
      have hne : q' ≠ q2 := fun e => (hJ.a q' e11).2 (by rw [e12, e])
      obtain ⟨rfl, rfl⟩ : u = .bool nl ∧ v = .slice g5 L.length c5 := by rw [e9] at e9'; simpa using e9'
      simp only [h0, h1, h2, h3, h4, h6, e9, e10, e11, e12]
      have hw' : Below w.heap.size w w' := hw5.trans (hb.bl.mono hw5.size)
      have Rw' := Rw5.below hb.bl kRw5
      have kq : q' < w'.heap.size := hBq.lt
      obtain ⟨u0, g0, n0, c0, hB2⟩ := id hBx2
      have kq2 : q2 < w'.heap.size := hB2.lt
      obtain ⟨cq0, cq1, fq0, fq1⟩ := hBq.two
      obtain ⟨cp0, cp1, fp0, fp1⟩ := hB2.two
      obtain ⟨cR0, cR1, fR0, fR1⟩ := Rw'.two
      have kRw' : (w4.heap.size + 1) < w'.heap.size := Rw'.lt
      have kkRw' : w4.heap.size < w'.heap.size := by omega
      have nR1 : w4.heap.size + 1 ≠ q2 := by omega
      have nR2 : w4.heap.size + 1 ≠ q' := by omega
      have nR3 := hne.symm
      have nR4 := nR1.symm
      have nR5 := nR2.symm
      clear hJ h0 h1 h2 h3 h4 h6 h13 e9 e9' e10 e11 e11' e12 hb Aw5 Bw5 Rw5 hw5
      go_upto_region 28 with fail
      refine wp_worldD ?_
      intro w6 hw6e
      have IL6 : IRow w6 g5 L.length L := by
        rw [hw6e]
        exact irow_bx ⟨_, _, _, _, (Rw'.other nR1 _).other nR1 _⟩ (irow_bx hBx2 IL _ _) _ _
      have hw6 : Below w.heap.size w w6 := by
        rw [hw6e]
        have z4 := hw4.size
        exact ((((hw'.setCell (by simp; omega) _).setCell (by simp; omega) _).setCell (by simp; omega) _).setCell (by simp; omega) _)
      have R6 : Blk w6 (w4.heap.size + 1) #[.bool nl, .slice g5 L.length c5] 37 := by
        rw [hw6e]
        exact (((Rw'.other nR1 _).other nR1 _).set 0 _).set 1 _
      clear hw6e cR0 cR1 fR0 fR1 cq0 cq1 fq0 fq1 cp0 cp1 fp0 fp1
      obtain ⟨cR0, cR1, fR0, fR1⟩ := R6.two
      have kR6 : (w4.heap.size + 1) < w6.heap.size := R6.lt
      go_wp2_with (go_at_call 14; with_reducible refine (FT.out g5 c5 _ IL6 hc5 hn5).mono ?_; rintro e w9 ⟨rfl, hb⟩
                   have hw9 := hw6.trans (hb.mono hw6.size)
                   clear hb)
      refine bodyPost_ret (v := .tuple #[.int .i64 0, .int .i64 0, .int .i64 53]) (by simp [results, Tryz.results29, go_sem]) rfl ⟨rfl, ?_⟩
      exact hw9
    · simp only [Bool.false_eq_true, if_false, if_true, Prod.mk.injEq] at hfit
      obtain ⟨rfl, rfl, rfl⟩ := hfit
      have hw : Below w.heap.size w w := Below.refl _ _
      go_enter Tryz.func29, Tryz.ntmps29
      go_upto_region 21 with (first
        | (go_at_call 15
           with_reducible refine (OA.out _).mono ?_
           rintro e w1 ⟨g1, c1, rfl, IX, hc1, hn1, -, hb⟩
           have hs := hb
           have hw1 : Below w.heap.size w w1 := hw.trans (hs.mono hw.size)
           have Xw1 := Lib.hid IX
           clear IX
           clear hb hs)
        | (go_at_call 15
           with_reducible refine (OB.out _).mono ?_
           rintro e w2 ⟨g2, c2, rfl, IY, hc2, hn2, -, hb⟩
           have hs : Below w1.heap.size w1 w2 := ((Below.refl _ _).alloc (Nat.le_refl _) _).trans (hb.mono (by simp; try omega))
           have hw2 : Below w.heap.size w w2 := hw1.trans (hs.mono hw1.size)
           have Aw2 : Blk w2 w1.heap.size #[.bool b1, .slice g1 X.length c1] 37 := (Blk.here rfl rfl).below hb (by simp; try omega)
           have Xw2 := Lib.hid (Xw1.out.below hs (Nat.le_refl _))
           have Yw2 := Lib.hid IY
           clear IY
           clear hb hs Xw1
           obtain ⟨cA0, cA1, fA0, fA1⟩ := Aw2.two
           have kAw2 : w1.heap.size < w2.heap.size := Aw2.lt)
        | (go_at_call 50
           with_reducible refine (UX.out g1 c1 _ (Xw2.out.below ((Below.refl _ _).alloc (Nat.le_refl _) _) (Nat.le_refl _)) hc1 hn1).mono ?_
           rintro e w3 ⟨g3, c3, rfl, IU, hc3, hn3, -, hb⟩
           have hs : Below w2.heap.size w2 w3 := ((Below.refl _ _).alloc (Nat.le_refl _) _).trans (hb.mono (by simp; try omega))
           have hw3 : Below w.heap.size w w3 := hw2.trans (hs.mono hw2.size)
           have Aw3 := Aw2.below hs kAw2
           have Bw3 : Blk w3 w2.heap.size #[.bool b2, .slice g2 Y.length c2] 37 := (Blk.here rfl rfl).below hb (by simp; try omega)
           have Xw3 := Lib.hid (Xw2.out.below hs (Nat.le_refl _))
           have Yw3 := Lib.hid (Yw2.out.below hs (Nat.le_refl _))
           have Uw3 := Lib.hid IU
           clear IU
           clear hb hs Aw2 kAw2 cA0 cA1 fA0 fA1 Xw2 Yw2
           obtain ⟨cA0, cA1, fA0, fA1⟩ := Aw3.two
           have kAw3 : w1.heap.size < w3.heap.size := Aw3.lt
           obtain ⟨cB0, cB1, fB0, fB1⟩ := Bw3.two
           have kBw3 : w2.heap.size < w3.heap.size := Bw3.lt)
        | (go_at_call 50
           with_reducible refine (UY.out g2 c2 _ (Yw3.out.below ((Below.refl _ _).alloc (Nat.le_refl _) _) (Nat.le_refl _)) hc2 hn2).mono ?_
           rintro e w4 ⟨g4, c4, rfl, IV, hc4, hn4, -, hb⟩
           have hs : Below w3.heap.size w3 w4 := ((Below.refl _ _).alloc (Nat.le_refl _) _).trans (hb.mono (by simp; try omega))
           have hw4 : Below w.heap.size w w4 := hw3.trans (hs.mono hw3.size)
           have Aw4 := Aw3.below hs kAw3
           have Bw4 := Bw3.below hs kBw3
           have Cw4 : Blk w4 w3.heap.size #[.bool b1, .slice g3 U.length c3] 37 := (Blk.here rfl rfl).below hb (by simp; try omega)
           have Xw4 := Lib.hid (Xw3.out.below hs (Nat.le_refl _))
           have Yw4 := Lib.hid (Yw3.out.below hs (Nat.le_refl _))
           have Uw4 := Lib.hid (Uw3.out.below hs (Nat.le_refl _))
           have Vw4 := Lib.hid IV
           clear IV
           clear hb hs Aw3 kAw3 cA0 cA1 fA0 fA1 Bw3 kBw3 cB0 cB1 fB0 fB1 Xw3 Yw3 Uw3
           obtain ⟨cA0, cA1, fA0, fA1⟩ := Aw4.two
           have kAw4 : w1.heap.size < w4.heap.size := Aw4.lt
           obtain ⟨cB0, cB1, fB0, fB1⟩ := Bw4.two
           have kBw4 : w2.heap.size < w4.heap.size := Bw4.lt
           obtain ⟨cC0, cC1, fC0, fC1⟩ := Cw4.two
           have kCw4 : w3.heap.size < w4.heap.size := Cw4.lt))
      refine wp_worldD ?_
      intro w5 hw5e
      have hs : Below w4.heap.size w4 w5 := by rw [hw5e]; exact ((Below.refl _ _).alloc (Nat.le_refl _) _).alloc (by simp) _
      have hw5 : Below w.heap.size w w5 := hw4.trans (hs.mono hw4.size)
      have Aw5 := Aw4.below hs kAw4
      have Bw5 := Bw4.below hs kBw4
      have Rw5 : Blk w5 (w4.heap.size + 1) #[.bool false, .slice none 0 0] 37 := by rw [hw5e]; exact Blk.here rfl (by simp)
      have Xw5 := Lib.hid (Xw4.out.below hs (Nat.le_refl _))
      have Yw5 := Lib.hid (Yw4.out.below hs (Nat.le_refl _))
      clear hs hw5e cA0 cA1 fA0 fA1 cB0 cB1 fB0 fB1 cC0 cC1 fC0 fC1 Aw4 Bw4 Cw4 kAw4 kBw4 kCw4 Xw4 Yw4 Uw4 Vw4
      have kAw5 : w1.heap.size < w5.heap.size := Aw5.lt
      have kBw5 : w2.heap.size < w5.heap.size := Bw5.lt
      have kRw5 : (w4.heap.size + 1) < w5.heap.size := Rw5.lt
      refine RJ.region_steps (R := (RB w5.heap.size)) 14 [some 85, some 86, some 87, some 88, some 89, some 90, some 91, some 92, some 84, some 93, some 94, some 19, some 20, none] JV RB.trans RB.drew ⟨fun q hq => by simp [orig, undef] at hq, fun q hq => by simp [orig, undef] at hq, fun h => by simp [orig, undef] at h⟩ (by kernel_rfl) (by kernel_rfl) ?_
      -- 0: Op.load 37 (Operand.tmp 13)
      refine RJ.ls_genO (RJ.MP.val (.agg #[.bool b1, .slice g1 X.length c1])) ?_ ?_
      · intro x w' hb hj hpre ho K hK
        have h13 := ho 13 (by omega) (.inr (by kernel_rfl))
        simp [orig] at h13
        clear ho
        obtain ⟨z00, z01, -, -⟩ := (Aw5.below hb.bl kAw5).two
        obtain ⟨z10, z11, -, -⟩ := (Bw5.below hb.bl kBw5).two
        clear hpre
        simp only [frL, Act.put, List.setIfInBounds_toArray, List.set_cons_zero, List.set_cons_succ, Nat.zero_add, Nat.reduceAdd] at hK ⊢
        have HK := Lib.hid hK
        clear hK
        refine Held.mk ?_
        go_simp
        exact HK.out _ _ rfl (hj.pre h13 (by decide) _ (Nat.le_refl _)) (RB.refl _)
      -- 1: Op.move (Operand.tmp 4)
      refine RJ.ls_genO (RJ.MP.val (.int .i64 (t : Int))) ?_ ?_
      · intro x w' hb hj hpre ho K hK
        have h13 := ho 13 (by omega) (.inr (by kernel_rfl))
        simp [orig] at h13
        clear ho
        obtain ⟨z00, z01, -, -⟩ := (Aw5.below hb.bl kAw5).two
        obtain ⟨z10, z11, -, -⟩ := (Bw5.below hb.bl kBw5).two
        clear hpre
        simp only [frL, Act.put, List.setIfInBounds_toArray, List.set_cons_zero, List.set_cons_succ, Nat.zero_add, Nat.reduceAdd] at hK ⊢
        have HK := Lib.hid hK
        clear hK
        refine Held.mk ?_
        go_simp
        exact HK.out _ _ rfl (hj.pre h13 (by decide) _ (Nat.le_refl _)) (RB.refl _)
      -- 2: Op.binOp BinOp.add 3 (Operand.const (Value.int IntKind.i64 9)) (Operand.tmp 86) 
      refine RJ.ls_genO (RJ.MP.val (.int .i64 (9 + (t : Int)))) ?_ ?_
      · intro x w' hb hj hpre ho K hK
        have h13 := ho 13 (by omega) (.inr (by kernel_rfl))
        simp [orig] at h13
        clear ho
        obtain ⟨z00, z01, -, -⟩ := (Aw5.below hb.bl kAw5).two
        obtain ⟨z10, z11, -, -⟩ := (Bw5.below hb.bl kBw5).two
        simp [preds, Region.binds, RJ.phi, RJ.MP.val] at hpre
        simp only [frL, Act.put, List.setIfInBounds_toArray, List.set_cons_zero, List.set_cons_succ, Nat.zero_add, Nat.reduceAdd, hpre] at hK ⊢
        have HK := Lib.hid hK
        clear hK
        refine Held.mk ?_
        go_simp
        exact HK.out _ _ rfl (hj.pre h13 (by decide) _ (Nat.le_refl _)) (RB.refl _)
      -- 3: Op.move (Operand.tmp 2)
      refine RJ.ls_genO (RJ.MP.val (.int .i64 (s : Int))) ?_ ?_
      · intro x w' hb hj hpre ho K hK
        have h13 := ho 13 (by omega) (.inr (by kernel_rfl))
        simp [orig] at h13
        clear ho
        obtain ⟨z00, z01, -, -⟩ := (Aw5.below hb.bl kAw5).two
        obtain ⟨z10, z11, -, -⟩ := (Bw5.below hb.bl kBw5).two
        clear hpre
        simp only [frL, Act.put, List.setIfInBounds_toArray, List.set_cons_zero, List.set_cons_succ, Nat.zero_add, Nat.reduceAdd] at hK ⊢
        have HK := Lib.hid hK
        clear hK
        refine Held.mk ?_
        go_simp
        exact HK.out _ _ rfl (hj.pre h13 (by decide) _ (Nat.le_refl _)) (RB.refl _)
      -- 4: Op.binOp BinOp.sub 3 (Operand.tmp 87) (Operand.tmp 88) 3
      refine RJ.ls_genO (RJ.MP.val (.int .i64 (9 + (t : Int) - (s : Int)))) ?_ ?_
      · intro x w' hb hj hpre ho K hK
        have h13 := ho 13 (by omega) (.inr (by kernel_rfl))
        simp [orig] at h13
        clear ho
        obtain ⟨z00, z01, -, -⟩ := (Aw5.below hb.bl kAw5).two
        obtain ⟨z10, z11, -, -⟩ := (Bw5.below hb.bl kBw5).two
        simp [preds, Region.binds, RJ.phi, RJ.MP.val] at hpre
        simp only [frL, Act.put, List.setIfInBounds_toArray, List.set_cons_zero, List.set_cons_succ, Nat.zero_add, Nat.reduceAdd, hpre] at hK ⊢
        have HK := Lib.hid hK
        clear hK
        refine Held.mk ?_
        go_simp
        exact HK.out _ _ rfl (hj.pre h13 (by decide) _ (Nat.le_refl _)) (RB.refl _)
      -- 5: Op.call { callee := Callee.value (Operand.func 50), args := #[Operand.tmp 85, Op
      refine RJ.ls_genO (MPbig w5.heap.size b1 T) ?_ ?_
      · intro x w' hb hj hpre ho K hK
        have h13 := ho 13 (by omega) (.inr (by kernel_rfl))
        simp [orig] at h13
        clear ho
        simp [preds, Region.binds, RJ.phi, RJ.MP.val, MPbig, MPtwo, MPbx] at hpre
        simp only [frL, Act.put, List.setIfInBounds_toArray, List.set_cons_zero, List.set_cons_succ, Nat.zero_add, Nat.reduceAdd, hpre] at hK ⊢
        have HK := Lib.hid hK
        clear hK
        refine Held.mk ?_
        go_simp
        refine (UT.out g1 c1 w' (hb.rows _ _ _ Xw5.out) hc1 hn1).mono ?_
        rintro e w1 ⟨g3, c3, rfl, hI, hc, hn, -, hb1⟩
        dsimp only
        exact HK.out _ _ ⟨g3, c3, rfl, hI, hc, hn⟩ (hj.pre h13 (by decide) _ hb1.size) (RB.of hb1 (Below.size hb.bl))
      -- 6: Op.load 37 (Operand.tmp 14)
      refine RJ.ls_genO (RJ.MP.val (.agg #[.bool b2, .slice g2 Y.length c2])) ?_ ?_
      · intro x w' hb hj hpre ho K hK
        have h13 := ho 13 (by omega) (.inr (by kernel_rfl))
        simp [orig] at h13
        clear ho
        obtain ⟨z00, z01, -, -⟩ := (Aw5.below hb.bl kAw5).two
        obtain ⟨z10, z11, -, -⟩ := (Bw5.below hb.bl kBw5).two
        clear hpre
        simp only [frL, Act.put, List.setIfInBounds_toArray, List.set_cons_zero, List.set_cons_succ, Nat.zero_add, Nat.reduceAdd] at hK ⊢
        have HK := Lib.hid hK
        clear hK
        refine Held.mk ?_
        go_simp
        exact HK.out _ _ rfl (hj.pre h13 (by decide) _ (Nat.le_refl _)) (RB.refl _)
      -- 7: Op.call { callee := Callee.value (Operand.func 53), args := #[Operand.tmp 90, Op
      refine RJ.ls_genO (MPtwo w5.heap.size nl L b1 R) ?_ ?_
      · intro x w' hb hj hpre ho K hK
        have h13 := ho 13 (by omega) (.inr (by kernel_rfl))
        simp [orig] at h13
        clear ho
        simp [preds, Region.binds, RJ.phi, RJ.MP.val, MPbig, MPtwo, MPbx] at hpre
        obtain ⟨⟨g3, c3, hp5, hI5, hc5, hn5⟩, hp6⟩ := hpre
        simp only [frL, Act.put, List.setIfInBounds_toArray, List.set_cons_zero, List.set_cons_succ, Nat.zero_add, Nat.reduceAdd, hp5, hp6] at hK ⊢
        have HK := Lib.hid hK
        clear hK
        refine Held.mk ?_
        go_simp
        refine (DV.out g3 g2 c3 c2 w' hI5 (hb.rows _ _ _ Yw5.out)).mono ?_
        rintro e w1 ⟨gq, cq, gr, cr, rfl, hIq, hcq, hnq, -, hIr, hcr, hnr, -, hb1⟩
        dsimp only
        exact HK.out _ _ ⟨gq, cq, gr, cr, rfl, hIq, hIr, ⟨hcq, hnq⟩, hcr, hnr⟩ (hj.pre h13 (by decide) _ hb1.size) (RB.of hb1 (Below.size hb.bl))
      -- 8: Op.move (Operand.tmp 92)
      refine RJ.ls_genO (MPtwo w5.heap.size nl L b1 R) ?_ ?_
      · intro x w' hb hj hpre ho K hK
        have h13 := ho 13 (by omega) (.inr (by kernel_rfl))
        simp [orig] at h13
        clear ho
        simp [preds, Region.binds, RJ.phi, RJ.MP.val, MPbig, MPtwo, MPbx] at hpre
        obtain ⟨gq, cq, gr, cr, hp, hI⟩ := hpre
        simp only [frL, Act.put, List.setIfInBounds_toArray, List.set_cons_zero, List.set_cons_succ, Nat.zero_add, Nat.reduceAdd, hp] at hK ⊢
        have HK := Lib.hid hK
        clear hK
        refine Held.mk ?_
        go_simp
        exact HK.out _ _ ⟨gq, cq, gr, cr, rfl, hI⟩ (hj.pre h13 (by decide) _ (Nat.le_refl _)) (RB.refl _)
      -- 9: Op.extract (Operand.tmp 84) 0
      refine RJ.ls_genO (MPbig w5.heap.size nl L) ?_ ?_
      · intro x w' hb hj hpre ho K hK
        have h13 := ho 13 (by omega) (.inr (by kernel_rfl))
        simp [orig] at h13
        clear ho
        simp [preds, Region.binds, RJ.phi, RJ.MP.val, MPbig, MPtwo, MPbx] at hpre
        obtain ⟨gq, cq, gr, cr, hp, hI1, hI2, h1, h2⟩ := hpre
        simp only [frL, Act.put, List.setIfInBounds_toArray, List.set_cons_zero, List.set_cons_succ, Nat.zero_add, Nat.reduceAdd, hp] at hK ⊢
        have HK := Lib.hid hK
        clear hK
        refine Held.mk ?_
        go_simp
        exact HK.out _ _ ⟨gq, cq, rfl, hI1, h1⟩ (hj.pre h13 (by decide) _ (Nat.le_refl _)) (RB.refl _)
      -- 10: Op.extract (Operand.tmp 84) 1
      refine RJ.ls_gen (MPbig w5.heap.size b1 R) ?_ ?_
      · intro x w' hb hj hpre K hK
        simp [preds, Region.binds, RJ.phi, RJ.MP.val, MPbig, MPtwo, MPbx] at hpre
        obtain ⟨gq, cq, gr, cr, hp, hI1, hI2, h1, h2⟩ := hpre
        simp only [frL, Act.put, List.setIfInBounds_toArray, List.set_cons_zero, List.set_cons_succ, Nat.zero_add, Nat.reduceAdd, hp] at hK ⊢
        have HK := Lib.hid hK
        clear hK
        refine Held.mk ?_
        go_simp
        exact HK.out _ _ ⟨gr, cr, rfl, hI2, h2⟩ (hj.ten _) (RB.refl _)
      -- 11: Op.alloc 37
      refine RJ.ls_genO (MPbx w5.heap.size) ?_ ?_
      · intro x w' hb hj hpre ho K hK
        have h13 := ho 13 (by omega) (.inr (by kernel_rfl))
        simp [orig] at h13
        clear ho
        obtain ⟨z00, z01, -, -⟩ := (Aw5.below hb.bl kAw5).two
        obtain ⟨z10, z11, -, -⟩ := (Bw5.below hb.bl kBw5).two
        clear hpre
        simp only [frL, Act.put, List.setIfInBounds_toArray, List.set_cons_zero, List.set_cons_succ, Nat.zero_add, Nat.reduceAdd] at hK ⊢
        have HK := Lib.hid hK
        clear hK
        refine Held.mk ?_
        go_simp
        exact HK.out _ _ ⟨_, rfl, Below.size hb.bl, _, _, _, _, Blk.new _ _ _⟩ (hj.n11 h13 _) (RB.of ((Below.refl _ _).alloc (Nat.le_refl _) _) (Below.size hb.bl))
      -- 12: Op.alloc 37
      refine RJ.ls_genO (MPbx w5.heap.size) ?_ ?_
      · intro x w' hb hj hpre ho K hK
        have h13 := ho 13 (by omega) (.inr (by kernel_rfl))
        simp [orig] at h13
        clear ho
        obtain ⟨z00, z01, -, -⟩ := (Aw5.below hb.bl kAw5).two
        obtain ⟨z10, z11, -, -⟩ := (Bw5.below hb.bl kBw5).two
        clear hpre
        simp only [frL, Act.put, List.setIfInBounds_toArray, List.set_cons_zero, List.set_cons_succ, Nat.zero_add, Nat.reduceAdd] at hK ⊢
        have HK := Lib.hid hK
        clear hK
        refine Held.mk ?_
        go_simp
        exact HK.out _ _ ⟨_, rfl, Below.size hb.bl, _, _, _, _, Blk.new _ _ _⟩ (hj.n12 h13 _) (RB.of ((Below.refl _ _).alloc (Nat.le_refl _) _) (Below.size hb.bl))
      -- 13: Op.store 37 (Operand.tmp 19) (Operand.tmp 93)
      refine RJ.ls_genO (RJ.MP.val (.bool true)) ?_ ?_
      · intro x w' hb hj hpre ho K hK
        clear ho
        simp [preds, Region.binds, RJ.phi, RJ.MP.val, MPbig, MPtwo, MPbx] at hpre
        obtain ⟨⟨q, hp11, hq, hBx⟩, ⟨g5, c5, hp9, hI9, -⟩, -⟩ := hpre
        obtain ⟨u0, g0, n0, c0, hS⟩ := id hBx
        obtain ⟨d0, d1, d2, d3⟩ := hS.two
        have dk : q < w'.heap.size := hS.lt
        simp only [frL, Act.put, List.setIfInBounds_toArray, List.set_cons_zero, List.set_cons_succ, Nat.zero_add, Nat.reduceAdd, hp11, hp9] at hK ⊢
        have HK := Lib.hid hK
        clear hK
        refine Held.mk ?_
        go_simp
        exact HK.out (.bool true) _ rfl (hj.put (by simp) hp11 hp9 ((hS.set 0 _).set 1 _)) (RB.put hBx hq _ _ _ _)
      intro x w' hb hp hJ
      simp only [List.cons_append, List.nil_append, RJ.phis, RJ.MP.val, frL, Act.put, List.setIfInBounds_toArray, List.set_cons_zero, List.set_cons_succ, Nat.zero_add, Nat.reduceAdd] at hp ⊢
      obtain ⟨h0, h1, h2, h3, h4, h5, h6, h7, h8, h9, h10, h11, h12, h13, -⟩ := hp
      obtain ⟨q, u, v, e11, e9, hBq⟩ := hJ.b h13
      obtain ⟨g5, c5, e9', IL, hc5, hn5⟩ : ∃ g c, x 9 = .agg #[.bool nl, .slice g L.length c] ∧ IRow w' g L.length L ∧ L.length ≤ c ∧ (g = none → c = 0) := h9
      obtain ⟨g6, c6, e10, -⟩ : ∃ g c, x 10 = .agg #[.bool b1, .slice g R.length c] ∧ IRow w' g R.length R ∧ R.length ≤ c ∧ (g = none → c = 0) := h10
      obtain ⟨q2, e12, hq2, hBx2⟩ : ∃ q, x 12 = .pointer (some ⟨q, 0, none⟩) ∧ w5.heap.size ≤ q ∧ Bx w' q := h12
      obtain ⟨q', e11', hq1, -⟩ : ∃ q, x 11 = .pointer (some ⟨q, 0, none⟩) ∧ w5.heap.size ≤ q ∧ Bx w' q := h11
      have hqq : q' = q := by rw [e11] at e11'; exact (ptr_inj e11').symm
      subst hqq
      have hne : q' ≠ q2 := fun e => (hJ.a q' e11).2 (by rw [e12, e])
      obtain ⟨rfl, rfl⟩ : u = .bool nl ∧ v = .slice g5 L.length c5 := by rw [e9] at e9'; simpa using e9'
      simp only [h0, h1, h2, h3, h4, h6, e9, e10, e11, e12]
      have hw' : Below w.heap.size w w' := hw5.trans (hb.bl.mono hw5.size)
      have Rw' := Rw5.below hb.bl kRw5
      have kq : q' < w'.heap.size := hBq.lt
      obtain ⟨u0, g0, n0, c0, hB2⟩ := id hBx2
      have kq2 : q2 < w'.heap.size := hB2.lt
      obtain ⟨cq0, cq1, fq0, fq1⟩ := hBq.two
      obtain ⟨cp0, cp1, fp0, fp1⟩ := hB2.two
      obtain ⟨cR0, cR1, fR0, fR1⟩ := Rw'.two
      have kRw' : (w4.heap.size + 1) < w'.heap.size := Rw'.lt
      have kkRw' : w4.heap.size < w'.heap.size := by omega
      have nR1 : w4.heap.size + 1 ≠ q2 := by omega
      have nR2 : w4.heap.size + 1 ≠ q' := by omega
      have nR3 := hne.symm
      have nR4 := nR1.symm
      have nR5 := nR2.symm
      clear hJ h0 h1 h2 h3 h4 h6 h13 e9 e9' e10 e11 e11' e12 hb Aw5 Bw5 Rw5 hw5
      go_upto_region 28 with fail
      refine wp_worldD ?_
      intro w6 hw6e
      have IL6 : IRow w6 g5 L.length L := by
        rw [hw6e]
        exact irow_bx ⟨_, _, _, _, (Rw'.other nR1 _).other nR1 _⟩ (irow_bx hBx2 IL _ _) _ _
      have hw6 : Below w.heap.size w w6 := by
        rw [hw6e]
        have z4 := hw4.size
        exact ((((hw'.setCell (by simp; omega) _).setCell (by simp; omega) _).setCell (by simp; omega) _).setCell (by simp; omega) _)
      have R6 : Blk w6 (w4.heap.size + 1) #[.bool nl, .slice g5 L.length c5] 37 := by
        rw [hw6e]
        exact (((Rw'.other nR1 _).other nR1 _).set 0 _).set 1 _
      clear hw6e cR0 cR1 fR0 fR1 cq0 cq1 fq0 fq1 cp0 cp1 fp0 fp1
      obtain ⟨cR0, cR1, fR0, fR1⟩ := R6.two
      have kR6 : (w4.heap.size + 1) < w6.heap.size := R6.lt
      go_wp2_with (go_at_call 14; with_reducible refine (FT.out g5 c5 _ IL6 hc5 hn5).mono ?_; rintro e w9 ⟨rfl, hb⟩
                   have hw9 := hw6.trans (hb.mono hw6.size)
                   clear hb)
      refine bodyPost_ret (v := .tuple #[.int .i64 f1, .int .i64 f2, .int .i64 0]) (by simp [results, Tryz.results29, go_sem]) rfl ⟨rfl, ?_⟩
      exact hw9
  · have hr : divF n s k t = (0, 0, 52) := by unfold divF; rw [ek]; rfl
    rw [hr]
    clear hr vX vY uX uY gX gY gU gV nX nY nU nV vV hk0
    have hw : Below w.heap.size w w := Below.refl _ _
    go_enter Tryz.func29, Tryz.ntmps29
    go_wp2_with (first
      | (go_at_call 15
         with_reducible refine (OA.out _).mono ?_
         rintro e w1 ⟨g1, c1, rfl, IX, hc1, hn1, -, hb⟩
         have hs := hb
         have hw1 : Below w.heap.size w w1 := hw.trans (hs.mono hw.size)
         have Xw1 := Lib.hid IX
         clear IX
         clear hb hs)
      | (go_at_call 15
         with_reducible refine (OB.out _).mono ?_
         rintro e w2 ⟨g2, c2, rfl, IY, hc2, hn2, -, hb⟩
         have hs : Below w1.heap.size w1 w2 := ((Below.refl _ _).alloc (Nat.le_refl _) _).trans (hb.mono (by simp; try omega))
         have hw2 : Below w.heap.size w w2 := hw1.trans (hs.mono hw1.size)
         have Aw2 : Blk w2 w1.heap.size #[.bool b1, .slice g1 X.length c1] 37 := (Blk.here rfl rfl).below hb (by simp; try omega)
         have Xw2 := Lib.hid (Xw1.out.below hs (Nat.le_refl _))
         have Yw2 := Lib.hid IY
         clear IY
         clear hb hs Xw1
         obtain ⟨cA0, cA1, fA0, fA1⟩ := Aw2.two
         have kAw2 : w1.heap.size < w2.heap.size := Aw2.lt)
      | (go_at_call 50
         with_reducible refine (UX.out g1 c1 _ (Xw2.out.below ((Below.refl _ _).alloc (Nat.le_refl _) _) (Nat.le_refl _)) hc1 hn1).mono ?_
         rintro e w3 ⟨g3, c3, rfl, IU, hc3, hn3, -, hb⟩
         have hs : Below w2.heap.size w2 w3 := ((Below.refl _ _).alloc (Nat.le_refl _) _).trans (hb.mono (by simp; try omega))
         have hw3 : Below w.heap.size w w3 := hw2.trans (hs.mono hw2.size)
         have Aw3 := Aw2.below hs kAw2
         have Bw3 : Blk w3 w2.heap.size #[.bool b2, .slice g2 Y.length c2] 37 := (Blk.here rfl rfl).below hb (by simp; try omega)
         have Xw3 := Lib.hid (Xw2.out.below hs (Nat.le_refl _))
         have Yw3 := Lib.hid (Yw2.out.below hs (Nat.le_refl _))
         have Uw3 := Lib.hid IU
         clear IU
         clear hb hs Aw2 kAw2 cA0 cA1 fA0 fA1 Xw2 Yw2
         obtain ⟨cA0, cA1, fA0, fA1⟩ := Aw3.two
         have kAw3 : w1.heap.size < w3.heap.size := Aw3.lt
         obtain ⟨cB0, cB1, fB0, fB1⟩ := Bw3.two
         have kBw3 : w2.heap.size < w3.heap.size := Bw3.lt)
      | (go_at_call 50
         with_reducible refine (UY.out g2 c2 _ (Yw3.out.below ((Below.refl _ _).alloc (Nat.le_refl _) _) (Nat.le_refl _)) hc2 hn2).mono ?_
         rintro e w4 ⟨g4, c4, rfl, IV, hc4, hn4, -, hb⟩
         have hs : Below w3.heap.size w3 w4 := ((Below.refl _ _).alloc (Nat.le_refl _) _).trans (hb.mono (by simp; try omega))
         have hw4 : Below w.heap.size w w4 := hw3.trans (hs.mono hw3.size)
         have Aw4 := Aw3.below hs kAw3
         have Bw4 := Bw3.below hs kBw3
         have Cw4 : Blk w4 w3.heap.size #[.bool b1, .slice g3 U.length c3] 37 := (Blk.here rfl rfl).below hb (by simp; try omega)
         have Xw4 := Lib.hid (Xw3.out.below hs (Nat.le_refl _))
         have Yw4 := Lib.hid (Yw3.out.below hs (Nat.le_refl _))
         have Uw4 := Lib.hid (Uw3.out.below hs (Nat.le_refl _))
         have Vw4 := Lib.hid IV
         clear IV
         clear hb hs Aw3 kAw3 cA0 cA1 fA0 fA1 Bw3 kBw3 cB0 cB1 fB0 fB1 Xw3 Yw3 Uw3
         obtain ⟨cA0, cA1, fA0, fA1⟩ := Aw4.two
         have kAw4 : w1.heap.size < w4.heap.size := Aw4.lt
         obtain ⟨cB0, cB1, fB0, fB1⟩ := Bw4.two
         have kBw4 : w2.heap.size < w4.heap.size := Bw4.lt
         obtain ⟨cC0, cC1, fC0, fC1⟩ := Cw4.two
         have kCw4 : w3.heap.size < w4.heap.size := Cw4.lt))
    refine bodyPost_ret (v := .tuple #[.int .i64 0, .int .i64 0, .int .i64 52]) (by simp [results, Tryz.results29, go_sem]) rfl ⟨rfl, ?_⟩
    exact hw4.alloc hw4.size _
end Go.Proofs.YtgbghbeolndfiaaGreatDoor
