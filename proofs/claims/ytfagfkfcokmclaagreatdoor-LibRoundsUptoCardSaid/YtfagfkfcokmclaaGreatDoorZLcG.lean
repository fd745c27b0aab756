/- LibRounds at every value. -/
import Derived.Test.YtfagfkfcokmclaaGreatDoorZLcF
import Derived.Test.YtfagfkfcokmclaaGreatDoorZAtR
import Derived.Test.YtfagfkfcokmclaaGreatDoorZMgE
set_option linter.unusedSimpArgs false
set_option linter.unusedVariables false
set_option linter.constructorNameAsVariable false
namespace Go.Proofs.YtfagfkfcokmclaaGreatDoor
open Go.RowKit Go.Sort

set_option maxRecDepth 100000 in
set_option maxHeartbeats 1600000 in
/-- Where the value is not right, or no number: what awake says. -/
theorem rounds_out (k n s : Int) (t : ByteArray) (b r : Bool) (hr : r = false ∨ (r = true ∧ (k != 1) = true ∧ (k != 2) = true)) (w : World)
    (CW0 : ∀ W, Below w.heap.size w W → Calls Tryz.prog 7 #[] W fun e w' => e = .returned (.bool true) ∧ Below W.heap.size W w')
    (CR0 : ∀ W, Calls Tryz.prog 8 #[.agg #[.int .i64 k, .int .i64 n, .int .i64 s, .string t, .bool b]] W fun e w' => e = .returned (.bool r) ∧ Below W.heap.size W w') :
    Calls Tryz.prog 3 #[.agg #[.int .i64 k, .int .i64 n, .int .i64 s, .string t, .bool b]] w fun e w' => e = .returned (.bool true) ∧ Below w.heap.size w w' := by
  have CW := Lib.hid CW0
  have CR := Lib.hid CR0
  clear CW0 CR0
  have hw0 : Below w.heap.size w (w.alloc (.cells #[.int .i64 k, .int .i64 n, .int .i64 s, .string t, .bool b] 24)) := (Below.refl _ _).alloc (Nat.le_refl _) _
  have B0 : Blk (w.alloc (.cells #[.int .i64 k, .int .i64 n, .int .i64 s, .string t, .bool b] 24)) w.heap.size #[.int .i64 k, .int .i64 n, .int .i64 s, .string t, .bool b] 24 := Blk.new _ _ _
  rcases hr with rfl | ⟨rfl, d1, d2⟩
  all_goals
    go_enter Tryz.func3, Tryz.ntmps3
    go_wp2_with fail
    generalize w.alloc (.cells #[.int .i64 k, .int .i64 n, .int .i64 s, .string t, .bool b] 24) = W0 at *
    with_reducible refine (CW.out _ hw0).mono ?_
    rintro e w1 ⟨rfl, hb⟩
    have hw1 := hw0.trans (hb.mono hw0.size)
    have B1 := B0.below hb B0.lt
    obtain ⟨⟨a0, a1, a2, a3, a4⟩, -⟩ := B1.five
    have ka := B1.lt
    clear B0 hb hw0
    go_wp2_with fail
    with_reducible refine (CR.out _).mono ?_
    rintro e w2 ⟨rfl, hb⟩
    have hw2 := hw1.trans (hb.mono hw1.size)
    replace B1 := B1.below hb B1.lt
    clear a0 a1 a2 a3 a4 ka hb hw1
    obtain ⟨⟨a0, a1, a2, a3, a4⟩, -⟩ := B1.five
    have ka := B1.lt
    go_wp2_with fail
    with_reducible refine (CW.out _ hw2).mono ?_
    rintro e w3 ⟨rfl, hb⟩
    have hw3 := hw2.trans (hb.mono hw2.size)
    go_wp2_with fail
    go_returns
    exact ⟨rfl, hw3⟩
theorem Rt.neg {n s : Int} (h : Rt n s) : Rt (-n) s := ⟨by have := h.hi; omega, by have := h.lo; omega, h.s0, h.s9, fun h0 => by have := h.nz h0; omega⟩
theorem order_at {x : At} (hx : RA x) (hk : (x.k == 1 || x.k == 2) = true) {y : At} (hy : RA y) (hk2 : (y.k == 1 || y.k == 2) = true) (W : World) :
    Calls Tryz.prog 11 #[AV y, AV x] W fun e w' => e = .returned (.tuple #[.int .i64 (orderF y x).1, .int .i64 (orderF y x).2]) ∧ Below W.heap.size W w' := by
  have r1 := RA_Rt hy hk2
  have r2 := RA_Rt hx hk
  have ga := fun w' => group_any y.k y.n y.s y.t y.b w'
  have gc := fun w' => group_any x.k x.n x.s x.t x.b w'
  have g1 : groupF y = 1 := by unfold groupF; rw [if_pos hk2]
  have g2 : groupF x = 1 := by unfold groupF; rw [if_pos hk]
  have ho : orderF y x = (cmpF y.n y.s x.n x.s, 0) := by unfold orderF; rw [hk, hk2]; rfl
  rw [ho]
  obtain ⟨k, n, s, t, b⟩ := y
  obtain ⟨k2, n2, s2, t2, b2⟩ := x
  simp only at *
  obtain ⟨s', rfl⟩ : ∃ s' : Nat, s = (s' : Int) := ⟨s.toNat, by have := r1.s0; omega⟩
  obtain ⟨u', rfl⟩ : ∃ u' : Nat, s2 = (u' : Int) := ⟨s2.toNat, by have := r2.s0; omega⟩
  exact rorder_num _ _ _ _ _ _ _ _ _ _ _ _ ga gc (by rw [g1, g2]; rfl) (by rw [g1]; rfl) _ (fun w' => rcmp_any n n2 s' u' r1 r2 w') W
set_option maxRecDepth 100000 in
theorem rounds_any (k n s : Int) (t : ByteArray) (b : Bool) (ht : t.size ≤ 2000000) (w : World) (hS : Sp w) :
    Calls Tryz.prog 3 #[.agg #[.int .i64 k, .int .i64 n, .int .i64 s, .string t, .bool b]] w fun e w' => e = .returned (.bool true) ∧ Below w.heap.size w w' := by
  have CW : ∀ W, Below w.heap.size w W → Calls Tryz.prog 7 #[] W fun e w' => e = .returned (.bool true) ∧ Below W.heap.size W w' := fun W hW => awake_any W (hS.on hW)
  have CR := fun W => rright_any k n s t b ht W
  cases hr : rightA ⟨k, n, s, t, b⟩ with
  | false => rw [hr] at CR; exact rounds_out k n s t b false (.inl rfl) w CW CR
  | true =>
    rw [hr] at CR
    have hA := rightA_RA hr
    cases hk : (k == 1 || k == 2) with
    | false =>
      rw [Bool.or_eq_false_iff] at hk
      exact rounds_out k n s t b true (.inr ⟨rfl, by simpa using hk.1, by simpa using hk.2⟩) w CW CR
    | true =>
      obtain ⟨hR, hA0, hneg, hd, hle, hrr, o1, o2, o3, o4⟩ := rounds_facts hA hk
      have ht0 : t.size ≤ 65536 := by
        cases hA with
        | int n hR => show (0 : Nat) ≤ _; omega
        | dec n s hR => show (0 : Nat) ≤ _; omega
        | str t _ => exact nomatch (show false = true from hk)
        | bool b => exact nomatch (show false = true from hk)
        | raw t _ => exact nomatch (show false = true from hk)
      obtain ⟨hf1, hf2⟩ := floor_Rt hR
      have hRn := RA_Rt hA hk
      have hnn := hRn.lo
      have hnn2 := hRn.hi
      simp only at hnn hnn2
      have hL : RA (resA ⟨k, n, s, t, b⟩ (floorF (numN ⟨k, n, s, t, b⟩).1 (numN ⟨k, n, s, t, b⟩).2) 0) := by
        unfold resA; split
        · exact .int _ hf1
        · exact .dec _ _ hf1
      have hH : RA (resA ⟨k, n, s, t, b⟩ (ceilF (numN ⟨k, n, s, t, b⟩).1 (numN ⟨k, n, s, t, b⟩).2) 0) := by
        unfold resA; split
        · exact .int _ hf2
        · exact .dec _ _ hf2
      have hLk : ∀ m q : Int, ((resA ⟨k, n, s, t, b⟩ m q).k == 1 || (resA ⟨k, n, s, t, b⟩ m q).k == 2) = true := fun m q => by
        unfold resA; split <;> rfl
      have Ol := fun W => order_at hA hk hL (hLk _ _) W
      have Oh := fun W => order_at hA hk hH (hLk _ _) W
      rw [o1] at Ol
      rw [o3] at Oh
      have hf := hf1.lo
      have hf' := hf1.hi
      have hc := hf2.lo
      have hc' := hf2.hi
      have hk2 : k = 1 ∨ k = 2 := by simpa using hk
      rcases hk2 with rfl | rfl
      · refine rounds_main1 n s t b _ _ _ _ 0 _ _ w ht0 ⟨by omega, by omega⟩ ⟨by omega, by omega⟩ ⟨by omega, by omega⟩ hA0 hd hle hrr o2 o4 CW CR (fun W ab hW h => call_floor ⟨1, n, s, t, b⟩ hk hR ab 1 W (hS.on hW) h) (fun W ab hW h => call_ceiling ⟨1, n, s, t, b⟩ hk hR ab 1 W (hS.on hW) h) (fun W ab hW h => call_round ⟨1, n, s, t, b⟩ hk hR ab 1 W (hS.on hW) h) (fun W ab hW h => call_abs ⟨1, n, s, t, b⟩ hk hR ab 1 W (hS.on hW) h) (fun W ab hW h => ?_) Ol Oh
        have := call_abs ⟨1, -n, s, t, b⟩ hk (show Rt (-n) 0 from Rt.neg hR) ab 1 W (hS.on hW) h
        have he : resA ⟨1, -n, s, t, b⟩ (max (-n) (-(-n))) 0 = ⟨1, max n (-n), 0, ⟨#[]⟩, false⟩ := by
          show ofA (max (-n) (-(-n))) = ofA (max n (-n))
          rw [show max (-n) (-(-n)) = max n (-n) by omega]
        exact he ▸ this
      · refine rounds_main2 n s t b _ _ _ _ s _ _ w ht0 ⟨by omega, by omega⟩ ⟨by omega, by omega⟩ ⟨by omega, by omega⟩ hA0 hd hle hrr o2 o4 CW CR (fun W ab hW h => call_floor ⟨2, n, s, t, b⟩ hk hR ab 1 W (hS.on hW) h) (fun W ab hW h => call_ceiling ⟨2, n, s, t, b⟩ hk hR ab 1 W (hS.on hW) h) (fun W ab hW h => call_round ⟨2, n, s, t, b⟩ hk hR ab 1 W (hS.on hW) h) (fun W ab hW h => call_abs ⟨2, n, s, t, b⟩ hk hR ab 1 W (hS.on hW) h) (fun W ab hW h => ?_) Ol Oh
        have := call_abs ⟨2, -n, s, t, b⟩ hk (show Rt (-n) s from Rt.neg hR) ab 1 W (hS.on hW) h
        have he : resA ⟨2, -n, s, t, b⟩ (max (-n) (-(-n))) s = ⟨2, max n (-n), s, ⟨#[]⟩, false⟩ := by
          show numA (max (-n) (-(-n))) s = numA (max n (-n)) s
          rw [show max (-n) (-(-n)) = max n (-n) by omega]
        exact he ▸ this
end Go.Proofs.YtfagfkfcokmclaaGreatDoor
