/- Texts put together: LbP, LbI. -/
import Derived.Test.YtfagfkfcokmclaaGreatDoorZMgB
import Derived.Test.YtfagfkfcokmclaaGreatDoorZLbH
section
set_option linter.unusedSimpArgs false
set_option linter.unusedVariables false
namespace Go.Proofs.YtfagfkfcokmclaaGreatDoor

/-- A number as a value of the kind that came in. -/
def resA (a : At) (n s : Int) : At := if a.k == 1 then ofA n else numA n s
theorem rounds_facts {a : At} (h : RA a) (hk : (a.k == 1 || a.k == 2) = true) :
    Rt (numN a).1 (numN a).2 ∧ (0 ≤ max (numN a).1 (-(numN a).1)) ∧ max (-(numN a).1) (-(-(numN a).1)) = max (numN a).1 (-(numN a).1)
    ∧ ceilF (numN a).1 (numN a).2 - floorF (numN a).1 (numN a).2 ≤ 1 ∧ floorF (numN a).1 (numN a).2 ≤ ceilF (numN a).1 (numN a).2
    ∧ (roundF (numN a).1 (numN a).2 = floorF (numN a).1 (numN a).2 ∨ roundF (numN a).1 (numN a).2 = ceilF (numN a).1 (numN a).2)
    ∧ (orderF (resA a (floorF (numN a).1 (numN a).2) 0) a).2 = 0 ∧ (orderF (resA a (floorF (numN a).1 (numN a).2) 0) a).1 ≤ 0
    ∧ (orderF (resA a (ceilF (numN a).1 (numN a).2) 0) a).2 = 0 ∧ 0 ≤ (orderF (resA a (ceilF (numN a).1 (numN a).2) 0) a).1 := by
  obtain ⟨n, s, hR, hO, hN⟩ : ∃ n s : Int, Rt n s ∧ (∀ q : Int, orderF (resA a q 0) a = (cmpF q 0 n s, 0)) ∧ numN a = (n, s) := by
    cases h with
    | int n hR => exact ⟨n, 0, hR, fun q => rfl, rfl⟩
    | dec n s hR => exact ⟨n, s, hR, fun q => rfl, rfl⟩
    | str t _ => exact nomatch (show false = true from hk)
    | bool b => exact nomatch (show false = true from hk)
    | raw t _ => exact nomatch (show false = true from hk)
  rw [hN, hO, hO]
  obtain ⟨f1, f2, f3, f4, -⟩ := floor_cmp hR
  obtain ⟨u, v, x, y, -, -, -, -, hr⟩ := low_high hR
  refine ⟨hR, ?_, ?_, f3, f4, ?_, rfl, f1, rfl, f2⟩
  · show 0 ≤ max n (-n)
    omega
  · show max (-n) (-(-n)) = max n (-n)
    omega
  · show roundF n s = floorF n s ∨ roundF n s = ceilF n s
    rw [hr]
    split
    · exact .inr rfl
    · exact .inl rfl
end Go.Proofs.YtfagfkfcokmclaaGreatDoor
end
section
set_option linter.unusedSimpArgs false
set_option linter.unusedVariables false
set_option linter.constructorNameAsVariable false
namespace Go.Proofs.YtfagfkfcokmclaaGreatDoor
open Go.RowKit Go.Sort

set_option maxRecDepth 100000 in
set_option maxHeartbeats 800000 in
theorem caround_abs (x : At) (hk : (x.k == 1 || x.k == 2) = true) (hR : Rt (numN x).1 (numN x).2) (ab ao n cc : Nat) (w : World) (h : Arg1 w ab ao n 0 x) :
    Calls Tryz.prog 46 #[.agg #[.pointer none, .slice (some ⟨ab, ao, none⟩) n cc], .string ⟨#[97, 98, 115]⟩] w fun e w' => ∃ v, e = .returned v ∧ OwnI w.heap.size w' v [resA x (max (numN x).1 (-(numN x).1)) (numN x).2] ∧ Below w.heap.size w w' := by
  obtain ⟨k, nn, ss, t, b⟩ := x
  have hb0 : Below w.heap.size w (w.alloc (.cells #[.pointer none, .slice (some ⟨ab, ao, none⟩) n cc] 51)) := (Below.refl _ _).alloc (Nat.le_refl _) _
  have C1 : Hid (Calls Tryz.prog 70 #[.agg #[.pointer none, .slice (some ⟨ab, ao, none⟩) n cc], .int .i64 0] (w.alloc (.cells #[.pointer none, .slice (some ⟨ab, ao, none⟩) n cc] 51)) fun e w' => e = .returned (.tuple #[.agg #[.int .i64 k, .int .i64 nn, .int .i64 ss, .string t, .bool b], .bool true]) ∧ Below (w.alloc (.cells #[.pointer none, .slice (some ⟨ab, ao, none⟩) n cc] 51)).heap.size (w.alloc (.cells #[.pointer none, .slice (some ⟨ab, ao, none⟩) n cc] 51)) w') := cone_one ⟨k, nn, ss, t, b⟩ ab ao n cc 0 _ (h.on hb0)
  have CN := Lib.hid (numeric_num k nn ss t b hk)
  have CM := Lib.hid (num_any k nn ss t b)
  obtain ⟨PP, hPP⟩ : ∃ r, numN ⟨k, nn, ss, t, b⟩ = r := ⟨_, rfl⟩
  rw [hPP] at CM hR ⊢
  clear hPP
  obtain ⟨p, q⟩ := PP
  have hlo : -999999999999999999 ≤ p := hR.lo
  have hhi : p ≤ 999999999999999999 := hR.hi
  replace CM : Hid (∀ w, Calls Tryz.prog 82 #[.agg #[.int .i64 k, .int .i64 nn, .int .i64 ss, .string t, .bool b]] w fun e w' => e = .returned (.agg #[.int .i64 p, .int .i64 q]) ∧ Below w.heap.size w w') := CM.out
  obtain ⟨RES, hRES⟩ : ∃ r, resA ⟨k, nn, ss, t, b⟩ (max p (-p)) q = r := ⟨_, rfl⟩
  show Calls _ _ _ w fun e w' => ∃ v, e = .returned v ∧ OwnI w.heap.size w' v [resA ⟨k, nn, ss, t, b⟩ (max p (-p)) q] ∧ Below w.heap.size w w'
  rw [hRES]
  have HRES := Lib.hid hRES
  clear hRES h hR
  go_enter Tryz.func46, Tryz.ntmps46
  go_wp2_with fail
  with_reducible refine C1.out.mono ?_
  rintro e w1 ⟨rfl, hb1⟩
  have hw1 := hb0.trans (hb1.mono hb0.size)
  have B5 : Blk (w1.alloc (.cells #[.int .i64 k, .int .i64 nn, .int .i64 ss, .string t, .bool b] 24)) w1.heap.size #[.int .i64 k, .int .i64 nn, .int .i64 ss, .string t, .bool b] 24 := Blk.new _ _ _
  have hw2 : Below w.heap.size w (w1.alloc (.cells #[.int .i64 k, .int .i64 nn, .int .i64 ss, .string t, .bool b] 24)) := hw1.alloc hw1.size _
  have s1 := hw1.size
  clear C1 hb0 hb1
  go_wp2_with fail
  generalize w1.alloc (.cells #[.int .i64 k, .int .i64 nn, .int .i64 ss, .string t, .bool b] 24) = W2 at *
  have k5 := B5.lt
  with_reducible refine (CN.out W2).mono ?_
  rintro e w3 ⟨rfl, hb3⟩
  have B6 : Blk w3 w1.heap.size #[.int .i64 k, .int .i64 nn, .int .i64 ss, .string t, .bool b] 24 := Blk.below B5 hb3 k5
  have hw3 := hw2.trans (hb3.mono hw2.size)
  have B7 : Blk (((((w3.setCell ⟨w1.heap.size, 0, none⟩ (.int .i64 k)).setCell ⟨w1.heap.size, 1, none⟩ (.int .i64 nn)).setCell ⟨w1.heap.size, 2, none⟩ (.int .i64 ss)).setCell ⟨w1.heap.size, 3, none⟩ (.string t)).setCell ⟨w1.heap.size, 4, none⟩ (.bool b)) w1.heap.size #[.int .i64 k, .int .i64 nn, .int .i64 ss, .string t, .bool b] 24 := by
    simpa using ((((Blk.set B6 0 (.int .i64 k)).set 1 (.int .i64 nn)).set 2 (.int .i64 ss)).set 3 (.string t)).set 4 (.bool b)
  have hw7 : Below w.heap.size w (((((w3.setCell ⟨w1.heap.size, 0, none⟩ (.int .i64 k)).setCell ⟨w1.heap.size, 1, none⟩ (.int .i64 nn)).setCell ⟨w1.heap.size, 2, none⟩ (.int .i64 ss)).setCell ⟨w1.heap.size, 3, none⟩ (.string t)).setCell ⟨w1.heap.size, 4, none⟩ (.bool b)) := ((((hw3.setCell s1 _).setCell s1 _).setCell s1 _).setCell s1 _).setCell s1 _
  obtain ⟨⟨y0, y1, y2, y3, y4⟩, ⟨f0, f1, f2, f3, f4⟩⟩ := B6.five
  have k6 := B6.lt
  clear B6 B5 hb3 CN hw2
  go_wp2_with fail
  generalize (((((w3.setCell ⟨w1.heap.size, 0, none⟩ (.int .i64 k)).setCell ⟨w1.heap.size, 1, none⟩ (.int .i64 nn)).setCell ⟨w1.heap.size, 2, none⟩ (.int .i64 ss)).setCell ⟨w1.heap.size, 3, none⟩ (.string t)).setCell ⟨w1.heap.size, 4, none⟩ (.bool b)) = W7 at *
  have k7 := B7.lt
  with_reducible refine (CM.out W7).mono ?_
  rintro e w4 ⟨rfl, hb4⟩
  have B8 : Blk w4 w1.heap.size #[.int .i64 k, .int .i64 nn, .int .i64 ss, .string t, .bool b] 24 := Blk.below B7 hb4 k7
  have hw4 := hw7.trans (hb4.mono hw7.size)
  clear y0 y1 y2 y3 y4 f0 f1 f2 f3 f4 k6
  obtain ⟨⟨y0, y1, y2, y3, y4⟩, -⟩ := B8.five
  have k8 := B8.lt
  clear B7 B8 hb4 CM hw7 hw3
  have s4 := hw4.size
  have hw5 : Below w.heap.size w (w4.alloc (.cells #[.int .i64 (max p (-p)), .int .i64 q] 106)) := hw4.alloc s4 _
  cases e1 : (k == 1)
  · have hres : resA ⟨k, nn, ss, t, b⟩ (max p (-p)) q = ⟨2, max p (-p), q, bs [], false⟩ := by
      unfold resA
      rw [show ((⟨k, nn, ss, t, b⟩ : At).k == 1) = false from e1]
      rfl
    rw [hres] at HRES
    have CX := Lib.hid (number_of_any (max p (-p)) q)
    clear hres
    go_wp2_with fail
    with_reducible refine (CX.out _).mono ?_
    rintro e w6 ⟨rfl, hb6⟩
    have hw6 := hw5.trans (hb6.mono hw5.size)
    have CY := Lib.hid (lof_one 2 (max p (-p)) q (bs []) false w6)
    clear CX hb6
    go_wp2_with fail
    with_reducible refine CY.out.mono ?_
    rintro e w7 ⟨v, rfl, hO, hb7⟩
    have hw8 := hw6.trans (hb7.mono hw6.size)
    have HO := Lib.hid (OwnI.low hO hw6.size)
    clear hO CY hb7
    go_wp2_with fail
    go_returns
    exact ⟨_, rfl, HRES.out ▸ HO.out, hw8⟩
  · have hres : resA ⟨k, nn, ss, t, b⟩ (max p (-p)) q = ofA (max p (-p)) := by
      unfold resA
      rw [show ((⟨k, nn, ss, t, b⟩ : At).k == 1) = true from e1]
      rfl
    rw [hres] at HRES
    have CX := Lib.hid (whole_row (max p (-p)))
    clear hres
    go_wp2_with fail
    with_reducible refine (CX.out _).mono ?_
    rintro e w7 ⟨v, rfl, hO, hb7⟩
    have hw8 := hw5.trans (hb7.mono hw5.size)
    have HO := Lib.hid (OwnI.low hO hw5.size)
    clear hO CX hb7
    go_wp2_with fail
    go_returns
    exact ⟨_, rfl, HRES.out ▸ HO.out, hw8⟩
end Go.Proofs.YtfagfkfcokmclaaGreatDoor
end
