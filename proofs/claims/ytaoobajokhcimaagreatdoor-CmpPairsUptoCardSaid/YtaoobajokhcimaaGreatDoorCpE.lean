/- The document's 'beside'; the program's Truth and the document's; are all values of a row right. -/
import Derived.Test.YtaoobajokhcimaaGreatDoorCpD
import Derived.Test.YtaoobajokhcimaaGreatDoorAtAb
set_option linter.unusedSimpArgs false
set_option linter.unusedVariables false
set_option linter.constructorNameAsVariable false
namespace Go.Proofs.YtaoobajokhcimaaGreatDoor
open Go.RowKit Go.Sort

set_option maxRecDepth 100000 in
theorem rbeside_no (k n s : Int) (t : ByteArray) (b : Bool) (k2 n2 s2 : Int) (t2 : ByteArray) (b2 : Bool) (e1 : (k == 5) = false) (w : World) : Calls Tryz.prog 60 #[.agg #[.int .i64 k, .int .i64 n, .int .i64 s, .string t, .bool b], .agg #[.int .i64 k2, .int .i64 n2, .int .i64 s2, .string t2, .bool b2]] w fun e w' => e = .returned (.tuple #[.agg #[.int .i64 k, .int .i64 n, .int .i64 s, .string t, .bool b], .int .i64 0]) ∧ Below w.heap.size w w' := by
  go_enter Tryz.func60, Tryz.ntmps60
  go_wp2_with fail
  refine bodyPost_ret (v := .tuple #[.agg #[.int .i64 k, .int .i64 n, .int .i64 s, .string t, .bool b], .int .i64 0]) (by simp [results, Tryz.results60, go_sem] <;> first | done | rfl) rfl ⟨rfl, ?_⟩
  go_grown
set_option maxRecDepth 100000 in
theorem rbeside_num (n s : Int) (t : ByteArray) (b : Bool) (k2 n2 s2 : Int) (t2 : ByteArray) (b2 : Bool) {w : World} (g : Int) (hN : ∀ w', Calls Tryz.prog 61 #[.agg #[.int .i64 k2, .int .i64 n2, .int .i64 s2, .string t2, .bool b2]] w' fun e w'' => e = .returned (.int .i64 g) ∧ Below w'.heap.size w' w'') (e1 : (g == 1) = true) (xk xn xs : Int) (xt : ByteArray) (xb : Bool) (r : Int) (hC : ∀ w', Calls Tryz.prog 27 #[.agg #[.int .i64 5, .int .i64 n, .int .i64 s, .string t, .bool b], .int .i64 2] w' fun e w'' => e = .returned (.tuple #[.agg #[.int .i64 xk, .int .i64 xn, .int .i64 xs, .string xt, .bool xb], .int .i64 r]) ∧ Below w'.heap.size w' w'') : Calls Tryz.prog 60 #[.agg #[.int .i64 5, .int .i64 n, .int .i64 s, .string t, .bool b], .agg #[.int .i64 k2, .int .i64 n2, .int .i64 s2, .string t2, .bool b2]] w fun e w' => e = .returned (.tuple #[.agg #[.int .i64 xk, .int .i64 xn, .int .i64 xs, .string xt, .bool xb], .int .i64 r]) ∧ Below w.heap.size w w' := by
  have CN := Lib.hid hN
  have CC := Lib.hid hC
  clear hN hC
  go_enter Tryz.func60, Tryz.ntmps60
  go_wp2_with (first
      | (go_at_call 61; with_reducible refine (CN.out _).mono ?_; rintro e w1 ⟨rfl, hb⟩
         have B0' : Blk w1 w.heap.size #[.int .i64 5, .int .i64 n, .int .i64 s, .string t, .bool b] 24 := (((Blk.here rfl (by simp)).alloc _).alloc _).below hb (by simp <;> omega)
         have B1' : Blk w1 (w.heap.size + 1) #[.int .i64 k2, .int .i64 n2, .int .i64 s2, .string t2, .bool b2] 24 := ((Blk.here rfl (by simp)).alloc _).below hb (by simp <;> omega)
         have B2' : Blk w1 (w.heap.size + 1 + 1) #[.int .i64 0, .int .i64 0, .int .i64 0, .string ⟨#[]⟩, .bool false] 24 := (Blk.here rfl (by simp)).below hb (by simp <;> omega)
         have hw1 : Below w.heap.size w w1 := Below.trans (by go_grown) (hb.mono (by simp <;> omega))
         have B0 := B0'
         have kB0 : w.heap.size < w1.heap.size := B0.lt
         obtain ⟨B00, B01, B02, B03, B04⟩ := B0.five.1
         have B1 := B1'
         have kB1 : (w.heap.size + 1) < w1.heap.size := B1.lt
         obtain ⟨B10, B11, B12, B13, B14⟩ := B1.five.1
         have B2 := B2'
         have kB2 : (w.heap.size + 1 + 1) < w1.heap.size := B2.lt
         obtain ⟨B20, B21, B22, B23, B24⟩ := B2.five.1
         obtain ⟨F20, F21, F22, F23, F24⟩ := B2.five.2
         clear B0' B1' B2'
         clear hb)
      | (go_at_call 27; with_reducible refine (CC.out _).mono ?_; rintro e w2 ⟨rfl, hb⟩
         have B0' := B0.below hb B0.lt
         have B1' := B1.below hb B1.lt
         have B2' := B2.below hb B2.lt
         have hw2 : Below w.heap.size w w2 := hw1.trans (hb.mono hw1.size)
         clear B0 B1 B2 kB0 B00 B01 B02 B03 B04 kB1 B10 B11 B12 B13 B14 kB2 B20 B21 B22 B23 B24
         have B0 := B0'
         have kB0 : w.heap.size < w2.heap.size := B0.lt
         obtain ⟨B00, B01, B02, B03, B04⟩ := B0.five.1
         have B1 := B1'
         have kB1 : (w.heap.size + 1) < w2.heap.size := B1.lt
         obtain ⟨B10, B11, B12, B13, B14⟩ := B1.five.1
         have B2 := B2'
         have kB2 : (w.heap.size + 1 + 1) < w2.heap.size := B2.lt
         obtain ⟨B20, B21, B22, B23, B24⟩ := B2.five.1
         obtain ⟨F20, F21, F22, F23, F24⟩ := B2.five.2
         clear B0' B1' B2'
         clear hb))
  refine bodyPost_ret (v := .tuple #[.agg #[.int .i64 xk, .int .i64 xn, .int .i64 xs, .string xt, .bool xb], .int .i64 r]) (by simp [results, Tryz.results60, go_sem, B20, B21, B22, B23, B24, F20, F21, F22, F23, F24, kB2, kB0, kB1] <;> first | done | rfl | exact ⟨rfl, rfl, rfl, rfl, rfl⟩ | exact ⟨rfl, rfl, rfl, rfl⟩) rfl ⟨rfl, ?_⟩
  go_grown
  all_goals first | exact hw2 | exact hw2.size

set_option maxRecDepth 100000 in
theorem rbeside_bool (n s : Int) (t : ByteArray) (b : Bool) (k2 n2 s2 : Int) (t2 : ByteArray) (b2 : Bool) {w : World} (g : Int) (hN : ∀ w', Calls Tryz.prog 61 #[.agg #[.int .i64 k2, .int .i64 n2, .int .i64 s2, .string t2, .bool b2]] w' fun e w'' => e = .returned (.int .i64 g) ∧ Below w'.heap.size w' w'') (e1 : (g == 1) = false) (e3 : (g == 3) = true) (xk xn xs : Int) (xt : ByteArray) (xb : Bool) (r : Int) (hC : ∀ w', Calls Tryz.prog 27 #[.agg #[.int .i64 5, .int .i64 n, .int .i64 s, .string t, .bool b], .int .i64 4] w' fun e w'' => e = .returned (.tuple #[.agg #[.int .i64 xk, .int .i64 xn, .int .i64 xs, .string xt, .bool xb], .int .i64 r]) ∧ Below w'.heap.size w' w'') : Calls Tryz.prog 60 #[.agg #[.int .i64 5, .int .i64 n, .int .i64 s, .string t, .bool b], .agg #[.int .i64 k2, .int .i64 n2, .int .i64 s2, .string t2, .bool b2]] w fun e w' => e = .returned (.tuple #[.agg #[.int .i64 xk, .int .i64 xn, .int .i64 xs, .string xt, .bool xb], .int .i64 r]) ∧ Below w.heap.size w w' := by
  have CN := Lib.hid hN
  have CC := Lib.hid hC
  clear hN hC
  go_enter Tryz.func60, Tryz.ntmps60
  go_wp2_with (first
      | (go_at_call 61; with_reducible refine (CN.out _).mono ?_; rintro e w1 ⟨rfl, hb⟩
         have B0' : Blk w1 w.heap.size #[.int .i64 5, .int .i64 n, .int .i64 s, .string t, .bool b] 24 := (((Blk.here rfl (by simp)).alloc _).alloc _).below hb (by simp <;> omega)
         have B1' : Blk w1 (w.heap.size + 1) #[.int .i64 k2, .int .i64 n2, .int .i64 s2, .string t2, .bool b2] 24 := ((Blk.here rfl (by simp)).alloc _).below hb (by simp <;> omega)
         have B2' : Blk w1 (w.heap.size + 1 + 1) #[.int .i64 0, .int .i64 0, .int .i64 0, .string ⟨#[]⟩, .bool false] 24 := (Blk.here rfl (by simp)).below hb (by simp <;> omega)
         have hw1 : Below w.heap.size w w1 := Below.trans (by go_grown) (hb.mono (by simp <;> omega))
         have B0 := B0'
         have kB0 : w.heap.size < w1.heap.size := B0.lt
         obtain ⟨B00, B01, B02, B03, B04⟩ := B0.five.1
         have B1 := B1'
         have kB1 : (w.heap.size + 1) < w1.heap.size := B1.lt
         obtain ⟨B10, B11, B12, B13, B14⟩ := B1.five.1
         have B2 := B2'
         have kB2 : (w.heap.size + 1 + 1) < w1.heap.size := B2.lt
         obtain ⟨B20, B21, B22, B23, B24⟩ := B2.five.1
         obtain ⟨F20, F21, F22, F23, F24⟩ := B2.five.2
         clear B0' B1' B2'
         clear hb)
      | (go_at_call 61; with_reducible refine (CN.out _).mono ?_; rintro e w2 ⟨rfl, hb⟩
         have B0' := B0.below hb B0.lt
         have B1' := B1.below hb B1.lt
         have B2' := B2.below hb B2.lt
         have hw2 : Below w.heap.size w w2 := hw1.trans (hb.mono hw1.size)
         clear B0 B1 B2 kB0 B00 B01 B02 B03 B04 kB1 B10 B11 B12 B13 B14 kB2 B20 B21 B22 B23 B24
         have B0 := B0'
         have kB0 : w.heap.size < w2.heap.size := B0.lt
         obtain ⟨B00, B01, B02, B03, B04⟩ := B0.five.1
         have B1 := B1'
         have kB1 : (w.heap.size + 1) < w2.heap.size := B1.lt
         obtain ⟨B10, B11, B12, B13, B14⟩ := B1.five.1
         have B2 := B2'
         have kB2 : (w.heap.size + 1 + 1) < w2.heap.size := B2.lt
         obtain ⟨B20, B21, B22, B23, B24⟩ := B2.five.1
         obtain ⟨F20, F21, F22, F23, F24⟩ := B2.five.2
         clear B0' B1' B2'
         clear hb)
      | (go_at_call 27; with_reducible refine (CC.out _).mono ?_; rintro e w3 ⟨rfl, hb⟩
         have B0' := B0.below hb B0.lt
         have B1' := B1.below hb B1.lt
         have B2' := B2.below hb B2.lt
         have hw3 : Below w.heap.size w w3 := hw2.trans (hb.mono hw2.size)
         clear B0 B1 B2 kB0 B00 B01 B02 B03 B04 kB1 B10 B11 B12 B13 B14 kB2 B20 B21 B22 B23 B24
         have B0 := B0'
         have kB0 : w.heap.size < w3.heap.size := B0.lt
         obtain ⟨B00, B01, B02, B03, B04⟩ := B0.five.1
         have B1 := B1'
         have kB1 : (w.heap.size + 1) < w3.heap.size := B1.lt
         obtain ⟨B10, B11, B12, B13, B14⟩ := B1.five.1
         have B2 := B2'
         have kB2 : (w.heap.size + 1 + 1) < w3.heap.size := B2.lt
         obtain ⟨B20, B21, B22, B23, B24⟩ := B2.five.1
         obtain ⟨F20, F21, F22, F23, F24⟩ := B2.five.2
         clear B0' B1' B2'
         clear hb))
  refine bodyPost_ret (v := .tuple #[.agg #[.int .i64 xk, .int .i64 xn, .int .i64 xs, .string xt, .bool xb], .int .i64 r]) (by simp [results, Tryz.results60, go_sem, B20, B21, B22, B23, B24, F20, F21, F22, F23, F24, kB2, kB0, kB1] <;> first | done | rfl | exact ⟨rfl, rfl, rfl, rfl, rfl⟩ | exact ⟨rfl, rfl, rfl, rfl⟩) rfl ⟨rfl, ?_⟩
  go_grown
  all_goals first | exact hw3 | exact hw3.size

set_option maxRecDepth 100000 in
theorem rbeside_oth (n s : Int) (t : ByteArray) (b : Bool) (k2 n2 s2 : Int) (t2 : ByteArray) (b2 : Bool) {w : World} (g : Int) (hN : ∀ w', Calls Tryz.prog 61 #[.agg #[.int .i64 k2, .int .i64 n2, .int .i64 s2, .string t2, .bool b2]] w' fun e w'' => e = .returned (.int .i64 g) ∧ Below w'.heap.size w' w'') (e1 : (g == 1) = false) (e3 : (g == 3) = false) : Calls Tryz.prog 60 #[.agg #[.int .i64 5, .int .i64 n, .int .i64 s, .string t, .bool b], .agg #[.int .i64 k2, .int .i64 n2, .int .i64 s2, .string t2, .bool b2]] w fun e w' => e = .returned (.tuple #[.agg #[.int .i64 5, .int .i64 n, .int .i64 s, .string t, .bool b], .int .i64 0]) ∧ Below w.heap.size w w' := by
  have CN := Lib.hid hN
  clear hN
  go_enter Tryz.func60, Tryz.ntmps60
  go_wp2_with (first
      | (go_at_call 61; with_reducible refine (CN.out _).mono ?_; rintro e w1 ⟨rfl, hb⟩
         have B0' : Blk w1 w.heap.size #[.int .i64 5, .int .i64 n, .int .i64 s, .string t, .bool b] 24 := (((Blk.here rfl (by simp)).alloc _).alloc _).below hb (by simp <;> omega)
         have B1' : Blk w1 (w.heap.size + 1) #[.int .i64 k2, .int .i64 n2, .int .i64 s2, .string t2, .bool b2] 24 := ((Blk.here rfl (by simp)).alloc _).below hb (by simp <;> omega)
         have B2' : Blk w1 (w.heap.size + 1 + 1) #[.int .i64 0, .int .i64 0, .int .i64 0, .string ⟨#[]⟩, .bool false] 24 := (Blk.here rfl (by simp)).below hb (by simp <;> omega)
         have hw1 : Below w.heap.size w w1 := Below.trans (by go_grown) (hb.mono (by simp <;> omega))
         have B0 := B0'
         have kB0 : w.heap.size < w1.heap.size := B0.lt
         obtain ⟨B00, B01, B02, B03, B04⟩ := B0.five.1
         have B1 := B1'
         have kB1 : (w.heap.size + 1) < w1.heap.size := B1.lt
         obtain ⟨B10, B11, B12, B13, B14⟩ := B1.five.1
         have B2 := B2'
         have kB2 : (w.heap.size + 1 + 1) < w1.heap.size := B2.lt
         obtain ⟨B20, B21, B22, B23, B24⟩ := B2.five.1
         obtain ⟨F20, F21, F22, F23, F24⟩ := B2.five.2
         clear B0' B1' B2'
         clear hb)
      | (go_at_call 61; with_reducible refine (CN.out _).mono ?_; rintro e w2 ⟨rfl, hb⟩
         have B0' := B0.below hb B0.lt
         have B1' := B1.below hb B1.lt
         have B2' := B2.below hb B2.lt
         have hw2 : Below w.heap.size w w2 := hw1.trans (hb.mono hw1.size)
         clear B0 B1 B2 kB0 B00 B01 B02 B03 B04 kB1 B10 B11 B12 B13 B14 kB2 B20 B21 B22 B23 B24
         have B0 := B0'
         have kB0 : w.heap.size < w2.heap.size := B0.lt
         obtain ⟨B00, B01, B02, B03, B04⟩ := B0.five.1
         have B1 := B1'
         have kB1 : (w.heap.size + 1) < w2.heap.size := B1.lt
         obtain ⟨B10, B11, B12, B13, B14⟩ := B1.five.1
         have B2 := B2'
         have kB2 : (w.heap.size + 1 + 1) < w2.heap.size := B2.lt
         obtain ⟨B20, B21, B22, B23, B24⟩ := B2.five.1
         obtain ⟨F20, F21, F22, F23, F24⟩ := B2.five.2
         clear B0' B1' B2'
         clear hb))
  refine bodyPost_ret (v := .tuple #[.agg #[.int .i64 5, .int .i64 n, .int .i64 s, .string t, .bool b], .int .i64 0]) (by simp [results, Tryz.results60, go_sem, B20, B21, B22, B23, B24, F20, F21, F22, F23, F24, kB2, kB0, kB1] <;> first | done | rfl | exact ⟨rfl, rfl, rfl, rfl, rfl⟩ | exact ⟨rfl, rfl, rfl, rfl⟩) rfl ⟨rfl, ?_⟩
  go_grown
  all_goals first | exact hw2 | exact hw2.size

theorem rbeside_any (a c : At) (ha : RA a) (hc : RA c) (ht : a.t.size ≤ 2000000) (w : World) : Calls Tryz.prog 60 #[AV a, AV c] w fun e w' => e = .returned (.tuple #[AV (besideF a c).1, .int .i64 (besideF a c).2]) ∧ Below w.heap.size w w' := by
  have gc := fun w' => group_any c.k c.n c.s c.t c.b w'
  have cc := fun tk w' => rcast_any a ha ht tk w'
  have kc := RA_k hc
  have hg : (groupF c == 1) = (c.k == 1 || c.k == 2) ∧ (groupF c == 3) = (c.k == 4) := by
    cases hc <;> exact ⟨rfl, rfl⟩
  obtain ⟨g1, g3⟩ := hg
  unfold besideF
  obtain ⟨k2, n2, s2, t2, b2⟩ := c
  simp only at *
  cases e1 : (a.k == 5)
  · have e5 : (a.k != 5) = true := by unfold bne; rw [e1]; rfl
    rw [e5]
    simp only [if_true]
    exact rbeside_no _ _ _ _ _ _ _ _ _ _ e1 w
  · have e5 : (a.k != 5) = false := by unfold bne; rw [e1]; rfl
    rw [e5]
    simp only [Bool.false_eq_true, if_false]
    obtain ⟨k, n, s, t, b⟩ := a
    obtain rfl : k = 5 := by simpa using e1
    cases e2 : (k2 == 1 || k2 == 2)
    · rw [e2] at g1
      simp only [Bool.false_eq_true, if_false]
      cases e4 : (k2 == 4)
      · rw [e4] at g3
        simp only [Bool.false_eq_true, if_false]
        exact rbeside_oth _ _ _ _ _ _ _ _ _ _ gc g1 g3
      · rw [e4] at g3
        simp only [if_true]
        exact rbeside_bool _ _ _ _ _ _ _ _ _ _ gc g1 g3 _ _ _ _ _ _ (cc 4)
    · rw [e2] at g1
      simp only [if_true]
      exact rbeside_num _ _ _ _ _ _ _ _ _ _ gc g1 _ _ _ _ _ _ (cc 2)

set_option maxHeartbeats 2000000 in
theorem lright_any (a : Option Addr) (c : Nat) (xs : List At) (w : World) (hR : TRow w a xs) (hl : xs.length ≤ 1152921504606846976) (hs : ∀ x ∈ xs, x.t.size ≤ 2000000) : Calls Tryz.prog 30 #[.slice a xs.length c] w fun e w' => e = .returned (.bool (xs.all rightA)) ∧ Below w.heap.size w w' := by
  have HR := Lib.hid hR
  have HS := Lib.hid hs
  clear hR hs
  go_enter Tryz.func30, Tryz.ntmps30
  go_wp2_with fail
  go_loopg [3] (xs.length + 1) (fun m jj wr => ∃ j : Nat, j ≤ xs.length ∧ m + j = xs.length + 1 ∧ jj = .int .i64 (j : Int) ∧ Below w.heap.size w wr ∧ (xs.take j).all rightA = true)
  case atStart => exact ⟨0, by omega, by omega, rfl, Below.refl _ _, rfl⟩
  case round =>
    obtain ⟨j, hj, hmj, rfl, hw, hall⟩ := hrel
    have HALL := Lib.hid hall
    clear hall
    have hj0 : (0 : Int) ≤ (j : Int) := Int.natCast_nonneg _
    have j3 : IntKind.i64.wrap ((j : Int) + 1) = (j : Int) + 1 := IntWalk.i64_in _ (by omega)
    by_cases hlt : j < xs.length
    · obtain ⟨x, hjx⟩ : ∃ x, xs[j]? = some x := ⟨xs[j], by simp [hlt]⟩
      have HJ := Lib.hid hjx
      rcases HR.out with h0 | ⟨b, o, rfl, hb, hc⟩
      · rw [h0] at hlt; simp at hlt
      obtain ⟨x0, x1, x2, x3, x4⟩ := hc j x hjx
      have y0 := (hw.cell (p := ⟨b, o + j * 5, none⟩) hb).trans x0
      have y1 := (hw.cell (p := ⟨b, o + j * 5 + 1, none⟩) hb).trans x1
      have y2 := (hw.cell (p := ⟨b, o + j * 5 + 2, none⟩) hb).trans x2
      have y3 := (hw.cell (p := ⟨b, o + j * 5 + 3, none⟩) hb).trans x3
      have y4 := (hw.cell (p := ⟨b, o + j * 5 + 4, none⟩) hb).trans x4
      have hxs := HS.out x (List.mem_of_getElem? hjx)
      clear x0 x1 x2 x3 x4 hc hjx
      obtain ⟨k, n, s, t, bb⟩ := x
      simp only at y0 y1 y2 y3 y4 hxs
      have CX := Lib.hid (fun w' => rright_any k n s t bb hxs w')
      have i0 : decide ((j : Int) < (xs.length : Int)) = true := by simp; omega
      cases hx : rightA ⟨k, n, s, t, bb⟩
      · rw [hx] at CX
        have HX := Lib.hid hx
        clear hx
        go_wp2_with (first
          | (go_at_call 13; with_reducible refine (CX.out _).mono ?_; rintro e w1 ⟨rfl, hb1⟩
             have hw1 := hw.trans (hb1.mono hw.size)))
        go_returns
        exact ⟨by rw [at_false xs _ j HJ.out rightA HX.out]; rfl, hw1⟩
      · rw [hx] at CX
        have HX := Lib.hid hx
        clear hx
        go_wp2_with (first
          | (go_at_call 13; with_reducible refine (CX.out _).mono ?_; rintro e w1 ⟨rfl, hb1⟩
             have hw1 := hw.trans (hb1.mono hw.size)))
        go_roundg (gk - 1)
        case measure => omega
        case rel => exact ⟨j + 1, by omega, by omega, by go_num, hw1, by rw [at_take _ _ _ HJ.out, HALL.out, HX.out]; rfl⟩
    · have i0 : decide ((j : Int) < (xs.length : Int)) = false := by simp; omega
      have hf : xs.take j = xs := List.take_of_length_le (by omega)
      have HF : Hid (xs.all rightA = true) := by unfold Hid; rw [← HALL.out, hf]
      clear hf
      go_wp2_with fail
      go_returns
      exact ⟨by rw [HF.out]; rfl, hw⟩
end Go.Proofs.YtaoobajokhcimaaGreatDoor
