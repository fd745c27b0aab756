/- SeqOrders returns true and keeps what was there, for every row and number. -/
import Derived.Test.YtpnlhkpibgngbaaStH
import Derived.Test.YtpnlhkpibgngbaaSqK
set_option linter.unusedSimpArgs false
set_option linter.unusedVariables false
namespace Go.Proofs.Ytpnlhkpibgngbaa
open Go.RowKit Go.Sort Go.Proofs

theorem ORow.empty {w : World} {base q : Nat} (hq : Blk w q #[] 3) (hb : base ≤ q) : ORow w base (.slice (some ⟨q, 0, none⟩) 0 0) [] :=
  ⟨rfl, .inr ⟨q, 0, #[], rfl, hb, hq, Nat.le_refl _, Nat.zero_le _, rfl, rfl⟩⟩

theorem plc_pre (P : Int → Bool) (xs : List Int) (j : Nat) : ∀ k, ∃ t, plc P xs (j + k) = plc P xs j ++ t
  | 0 => ⟨[], by simp⟩
  | k + 1 => by
    obtain ⟨t, ht⟩ := plc_pre P xs j k
    refine ⟨t ++ ((([j + k]).filter fun i => P (xs.getD i 0)).map fun (i : Nat) => (i : Int) + 1), ?_⟩
    rw [← List.append_assoc, ← ht]
    unfold plc
    rw [show j + (k + 1) = (j + k) + 1 by omega, List.range_succ, List.filter_append, List.map_append]
/-- Where one of them stands among the places. -/
theorem plc_at {P : Int → Bool} {xs : List Int} {j : Nat} {x : Int} (h : xs[j]? = some x) (hP : P x = true) : (plc P xs j).length < (plc P xs xs.length).length ∧ (plc P xs xs.length)[(plc P xs j).length]? = some ((j : Int) + 1) := by
  have hj : j < xs.length := by
    rcases Nat.lt_or_ge j xs.length with h' | h'
    · exact h'
    · rw [List.getElem?_eq_none h'] at h; cases h
  obtain ⟨t, ht⟩ := plc_pre P xs (j + 1) (xs.length - (j + 1))
  rw [show j + 1 + (xs.length - (j + 1)) = xs.length by omega, plc_next h, hP, if_pos rfl] at ht
  rw [ht]
  constructor
  · simp
  · simp

set_option maxRecDepth 100000 in
set_option maxHeartbeats 4000000 in
theorem orders_any (al : Option Addr) (n cl : Nat) (xs : List Int) (m : Int) (down : Bool) (w : World) (h : n ≤ 300 → IRow w al n xs) (hn0 : al = none → cl = 0) (hcl : n ≤ cl) :
    Calls Try.prog 7 #[.slice al n cl, .int .i64 m, .bool down] w fun e w' => e = .returned (.bool true) ∧ Below w.heap.size w w' := by
  go_enter Try.func7, Try.ntmps7
  go_wp2_with fail
  refine (sawake_any _).mono ?_
  rintro e w1 ⟨rfl, b1⟩
  have HN := Lib.hid h
  have H0 := Lib.hid hn0
  clear h hn0
  by_cases g1 : 300 < n
  · have g1' : (300 : Int) < (n : Int) := by omega
    go_wp2_with fail
    refine (sawake_any _).mono ?_
    rintro e w2 ⟨rfl, b2⟩
    go_wp2_with fail
    go_light
    go_ret
    exact ⟨rfl, b1.trans (b2.mono b1.size)⟩
  have g1' : (n : Int) ≤ 300 := by omega
  have hX := HN.out (by omega)
  obtain rfl := hX.1
  have X := Lib.hid (hX.below b1 (Nat.le_refl _))
  have hX1 := Lib.hid X.out
  clear hX HN
  have t1 := Int.tmod_lt_of_pos m (show (0 : Int) < 7 by decide)
  have t2 := Int.lt_tmod_of_pos m (show (0 : Int) < 7 by decide)
  obtain ⟨N, hN, hN1, hN7⟩ : ∃ N : Int, 1 + m.tmod 7 % 7 = N ∧ 1 ≤ N ∧ N ≤ 7 := ⟨_, rfl, by omega, by omega⟩
  have HN := Lib.hid hN
  clear hN
  go_wp2_with (at_builtin; refine wpList_app rfl _ _ rfl (w1.heap.size + 1) _ [] xs rfl ?e1 _ _ _ rfl ?e2 H0.out ?c1 ?c2 ?_)
  case e1 =>
    have e := Blk.new (w1.alloc (Obj.cells #[Value.int IntKind.i64 (1 + m.tmod 7 % 7)] 3)) #[] 3
    simp at e
    exact ORow.empty e (by simp)
  case e2 => exact X.out.below (((Below.refl _ _).alloc (Nat.le_refl _) _).alloc (by simp) _) (Nat.le_refl _)
  case c1 => simp; omega
  case c2 => simp
  intro v2 w2 hO2 hb2
  rw [HN.out] at hb2
  have k2 : Below w1.heap.size w1 w2 := (((Below.refl _ _).alloc (Nat.le_refl _) _).alloc (by simp) _).trans (hb2.mono (by omega))
  have c7 : w2.cell? ⟨w1.heap.size, 0, none⟩ = some (.int .i64 N) := by rw [hb2.cell (p := ⟨w1.heap.size, 0, none⟩) (by simp)]; simp [go_sem]
  have s2 : w1.heap.size + 1 ≤ w2.heap.size := by have := hb2.size; simp at this; omega
  have hO2' : ORow w2 (w1.heap.size + 1) v2 xs := hO2
  obtain ⟨a2, c2, rfl, I2, hc2⟩ := hO2'.irow (by omega)
  have Y := Lib.hid I2
  have P := Lib.hid (places_25 (fun x => x.tmod N == 0) a2 c2 w1.heap.size xs w2 I2 (by omega) (fun W hW x => is25 _ N x W (by rw [(bcell hW).1 _ _ (by omega)]; exact c7) hN1 hN7))
  have C7 := Lib.hid c7
  clear hO2 hO2' I2 hb2 c7 X
  have X := Lib.hid (hX1.out.below k2 (Nat.le_refl _))
  go_wp2_with fail
  refine P.out.mono ?_
  rintro e w3 ⟨v3, rfl, hO3, b3⟩
  clear P
  have PL : Hid ((plc (fun x => x.tmod N == 0) xs xs.length).length ≤ 300) := by have := plc_len (fun x => x.tmod N == 0) xs xs.length; show _ ≤ _; omega
  obtain ⟨a3, c3, rfl, I3, hc3⟩ := hO3.irow (by have := PL.out; omega)
  have PP := Lib.hid I3
  clear hO3 I3
  have k3 : Below w1.heap.size w1 w3 := k2.trans (b3.mono (by omega))
  obtain ⟨L, hL⟩ : ∃ L, L = (plc (fun x => x.tmod N == 0) xs xs.length).length := ⟨_, rfl⟩
  rw [← hL] at hc3 PP PL ⊢
  have HL := Lib.hid hL
  clear hL
  have hL3 : (L : Int) ≤ 300 := by have := PL.out; omega
  go_wp2_with fail
  go_loopg [10, 11] (xs.length + 1) (fun m aa jj wr => ∃ j : Nat, j ≤ xs.length ∧ m + j = xs.length + 1 ∧ jj = .int .i64 j ∧ aa = .int .i64 ((plc (fun x => x.tmod N == 0) xs j).length : Nat) ∧ Below w3.heap.size w3 wr)
  case atStart => exact ⟨0, Nat.zero_le _, by omega, rfl, rfl, Below.refl _ _⟩
  case round =>
    obtain ⟨j, hj, hmj, rfl, rfl, hw⟩ := hrel
    obtain ⟨A, hA⟩ : ∃ A, A = (plc (fun x => x.tmod N == 0) xs j).length := ⟨_, rfl⟩
    rw [← hA]
    have HA := Lib.hid hA
    clear hA
    have e7 : wr.cell? ⟨w1.heap.size, 0, none⟩ = some (.int .i64 N) := by
      rw [(bcell hw).1 _ _ (by have := b3.size; omega), (bcell b3).1 _ _ (by omega)]; exact C7.out
    have hN0 : N ≠ 0 := by omega
    have hN00 : N ≠ -1 := by omega
    by_cases hlt : j < xs.length
    · obtain ⟨x, hx'⟩ : ∃ x, xs[j]? = some x := ⟨xs[j], by simp [hlt]⟩
      have HE := Lib.hid (plc_next (P := fun x => x.tmod N == 0) hx')
      obtain ⟨b1, q1, rfl, lb1, hx1⟩ := X.out.2.2 (by omega)
      have zx : wr.cell? ⟨b1, q1 + j, none⟩ = some (.int .i64 x) := by
        rw [(bcell hw).1 _ _ (by have := b3.size; omega), (bcell b3).1 _ _ lb1]; exact hx1 j x hx'
      clear hx1
      have HX := Lib.hid hx'
      clear hx'
      have j0 : (0 : Int) ≤ (j : Int) := Int.natCast_nonneg _
      have j1 : (j : Int) < (xs.length : Int) := by omega
      cases ht : (x.tmod N == 0)
      · go_wp2_with fail
        go_quiet (fail)
        go_wp2_with fail
        go_roundg (gk - 1)
        case measure => omega
        case rel =>
          go_light
          refine ⟨j + 1, by omega, by omega, by go_num, ?_, below_drewN hw nq⟩
          rw [HE.out, ht, HA.out]
          simp
      · obtain ⟨hAL, hat⟩ := plc_at (P := fun x => x.tmod N == 0) HX.out ht
        rw [← HA.out, ← HL.out] at hAL
        rw [← HA.out] at hat
        obtain ⟨b4, q4, rfl, lb4, hx4⟩ := PP.out.2.2 (by omega)
        have zp : wr.cell? ⟨b4, q4 + A, none⟩ = some (.int .i64 ((j : Int) + 1)) := by
          rw [(bcell hw).1 _ _ lb4]; exact hx4 A _ hat
        have zp' := Lib.hid (fun nq => (rfl : ((wr.drewN nq).cell? ⟨b4, q4 + A, none⟩) = wr.cell? ⟨b4, q4 + A, none⟩))
        clear hx4 hat
        have A0 : (0 : Int) ≤ (A : Int) := Int.natCast_nonneg _
        have A1 : (A : Int) < (L : Int) := by omega
        go_wp2_with fail
        go_quiet (fail)
        go_wp2_with fail
        go_roundg (gk - 1)
        case measure => omega
        case rel =>
          go_light
          refine ⟨j + 1, by omega, by omega, by go_num, ?_, below_drewN hw nq⟩
          rw [HE.out, ht, if_pos rfl, List.length_append, ← HA.out]
          simp
    · have j1 : ¬ (j : Int) < (xs.length : Int) := by omega
      have hjn : j = xs.length := by omega
      rw [hjn] at HA
      have hAL : A = L := by rw [HA.out, HL.out]
      subst hAL
      clear hjn HA HL
      have k4 : Below w1.heap.size w1 wr := k3.trans (hw.mono k3.size)
      have D := Lib.hid (dist_27 a2 c2 w1.heap.size xs N wr ((Y.out.below b3 (Nat.le_refl _)).below hw (Nat.le_refl _)) (by omega) e7 (by have := hw.size; have := b3.size; omega) hN1 hN7)
      go_wp2_with fail
      refine D.out.mono ?_
      rintro e w4 ⟨v4, rfl, hO4, b4⟩
      clear D
      have k5 : Below w1.heap.size w1 w4 := k4.trans (b4.mono k4.size)
      have f7 : w4.cell? ⟨w1.heap.size, 0, none⟩ = some (.int .i64 N) := by rw [(bcell b4).1 _ _ (by have := hw.size; have := b3.size; omega)]; exact e7
      have Y4 := Lib.hid (((Y.out.below b3 (Nat.le_refl _)).below hw (Nat.le_refl _)).below b4 (Nat.le_refl _))
      have O := Lib.hid (order_29 a2 c2 w1.heap.size xs N down w4 Y4.out (by omega) f7 (by have := b4.size; have := hw.size; have := b3.size; omega) hN1 hN7)
      have O4 := Lib.hid hO4
      clear hO4 Y
      go_wp2_with fail
      refine O.out.mono ?_
      rintro e w5 ⟨ys, ⟨v5, rfl, hO5, b5⟩, hord⟩
      clear O
      have HO := Lib.hid (ordd_eq hN1 hord)
      have hyl : ys.length ≤ 300 := by have := hord.len; omega
      have k6 : Below w1.heap.size w1 w5 := k5.trans (b5.mono k5.size)
      have g7 : w5.cell? ⟨w1.heap.size, 0, none⟩ = some (.int .i64 N) := by rw [(bcell b5).1 _ _ (by have := b4.size; have := hw.size; have := b3.size; omega)]; exact f7
      have O45 := Lib.hid (O4.out.below b5 (Nat.le_refl _))
      have O5 := Lib.hid hO5
      have Y5 := Lib.hid (Y4.out.below b5 (Nat.le_refl _))
      have X5 := Lib.hid (hX1.out.below k6 (Nat.le_refl _))
      clear hO5 hord O4 Y4 e7 f7
      have R := Lib.hid (rdist_any al cl xs N w5 X5.out (by omega) hN1 hN7)
      go_wp2_with fail
      refine R.out.mono ?_
      rintro e w6 ⟨v6, rfl, hO6, b6⟩
      clear R
      have k7 : Below w1.heap.size w1 w6 := k6.trans (b6.mono k6.size)
      have hdl : (distF N xs).length ≤ 300 := by have := distF_len N xs []; unfold distF; simp at this; omega
      obtain ⟨a4, c4, rfl, I4, -⟩ := (O45.out.below b6 (Nat.le_refl _)).irow (by omega)
      obtain ⟨a6, c6, rfl, I6, -⟩ := hO6.irow (by omega)
      have h7 : w6.cell? ⟨w1.heap.size, 0, none⟩ = some (.int .i64 N) := by rw [(bcell b6).1 _ _ (by have := b5.size; have := b4.size; have := hw.size; have := b3.size; omega)]; exact g7
      have E1 := Lib.hid (ints_any a4 a6 _ _ c4 c6 _ _ w6 I4 I6)
      clear I4 I6 hO6 O45
      go_wp2_with fail
      refine E1.out.mono ?_
      rintro e w7 ⟨rfl, b7⟩
      clear E1
      rw [beq_self_eq_true]
      have k8 : Below w1.heap.size w1 w7 := k7.trans (b7.mono k7.size)
      have h8 : w7.cell? ⟨w1.heap.size, 0, none⟩ = some (.int .i64 N) := by rw [(bcell b7).1 _ _ (by have := b6.size; have := b5.size; have := b4.size; have := hw.size; have := b3.size; omega)]; exact h7
      have R : Hid (Calls Try.prog 31 #[.slice al xs.length cl, .int .i64 N, .bool down] w7 (Own ys w7)) := by
        show Calls _ _ _ _ _
        rw [HO.out]
        exact rorder_any al cl xs N down w7 (hX1.out.below k8 (Nat.le_refl _)) (by omega) hN1 hN7
      clear HO
      go_wp2_with fail
      refine R.out.mono ?_
      rintro e w8 ⟨v8, rfl, hO8, b8⟩
      clear R
      have k9 : Below w1.heap.size w1 w8 := k8.trans (b8.mono k8.size)
      obtain ⟨a5, c5, rfl, I5, -⟩ := (((O5.out.below b6 (Nat.le_refl _)).below b7 (Nat.le_refl _)).below b8 (Nat.le_refl _)).irow (by omega)
      obtain ⟨a8, c8, rfl, I8, -⟩ := hO8.irow (by omega)
      have E1 := Lib.hid (ints_any a5 a8 _ _ c5 c8 _ _ w8 I5 I8)
      clear I5 I8 hO8 O5
      go_wp2_with fail
      refine E1.out.mono ?_
      rintro e w9 ⟨rfl, b9⟩
      clear E1
      rw [beq_self_eq_true]
      have k10 : Below w1.heap.size w1 w9 := k9.trans (b9.mono k9.size)
      have E1 := Lib.hid (ints_any a2 al _ _ c2 cl _ _ w9 ((((Y5.out.below b6 (Nat.le_refl _)).below b7 (Nat.le_refl _)).below b8 (Nat.le_refl _)).below b9 (Nat.le_refl _)) (hX1.out.below k10 (Nat.le_refl _)))
      go_wp2_with fail
      refine E1.out.mono ?_
      rintro e w10 ⟨rfl, b10⟩
      rw [beq_self_eq_true]
      go_wp2_with fail
      go_light
      go_ret
      exact ⟨rfl, b1.trans ((k10.trans (b10.mono k10.size)).mono b1.size)⟩
end Go.Proofs.Ytpnlhkpibgngbaa
