/- LibTexts' walk (printed by lcr.py). -/
import Derived.Test.YtfagfkfcokmclaaGreatDoorZLcQ
import Derived.Test.YtfagfkfcokmclaaGreatDoorZLcL
set_option linter.unusedSimpArgs false
set_option linter.unusedVariables false
set_option linter.constructorNameAsVariable false
namespace Go.Proofs.YtfagfkfcokmclaaGreatDoor
open Go.RowKit Go.Sort

set_option maxRecDepth 100000 in
set_option maxHeartbeats 16000000 in
theorem texts_main (s t : ByteArray) (n : Int) (ok : Bool) (BE AF P R : ByteArray) (PS : List Int) (K : Int) (w : World) (hs : s.size ≤ 500) (ht : t.size ≤ 500)
    (hK : (n.tmod 20 + 20).tmod 20 = K) (hK0 : 0 ≤ K) (hK1 : K < 20) (hm1 : -20 < n.tmod 20) (hm2 : n.tmod 20 < 20)
    (hB : BE.size ≤ 500) (hA : AF.size ≤ 500) (hP : P.size ≤ 65536) (hR : R.size ≤ 65536) (hPS : PS.length ≤ 1000) (hsum : sumT (PS.map ofA) ≤ 65536)
    (hok : ok = true → BE ++ t ++ AF = s) (hno : ok = false → BE = ⟨#[]⟩ ∧ AF = ⟨#[]⟩)
    (CW0 : ∀ W, Below w.heap.size w W → Calls Tryz.prog 7 #[] W fun e w' => e = .returned (.bool true) ∧ Below W.heap.size W w')
    (Rs0 : ∀ W, Calls Tryz.prog 8 #[.agg #[.int .i64 3, .int .i64 0, .int .i64 0, .string s, .bool false]] W fun e w' => e = .returned (.bool true) ∧ Below W.heap.size W w')
    (Rt0 : ∀ W, Calls Tryz.prog 8 #[.agg #[.int .i64 3, .int .i64 0, .int .i64 0, .string t, .bool false]] W fun e w' => e = .returned (.bool true) ∧ Below W.heap.size W w')
    (Q10 : ∀ W ab, Below w.heap.size w W → Arg1 W ab 0 2 0 (textA s) → Arg1 W ab 0 2 1 (textA t) → Calls Tryz.prog 9 #[.pointer none, .string ⟨#[99, 111, 110, 116, 97, 105, 110, 115]⟩, .slice (some ⟨ab, 0, none⟩) 2 2] W (Ans [truthA ok] W))
    (Q20 : ∀ W ab, Below w.heap.size w W → Arg1 W ab 0 2 0 (textA s) → Arg1 W ab 0 2 1 (textA t) → Calls Tryz.prog 9 #[.pointer none, .string ⟨#[115, 117, 98, 115, 116, 114, 105, 110, 103, 45, 98, 101, 102, 111, 114, 101]⟩, .slice (some ⟨ab, 0, none⟩) 2 2] W (Ans [textA BE] W))
    (Q30 : ∀ W ab, Below w.heap.size w W → Arg1 W ab 0 2 0 (textA s) → Arg1 W ab 0 2 1 (textA t) → Calls Tryz.prog 9 #[.pointer none, .string ⟨#[115, 117, 98, 115, 116, 114, 105, 110, 103, 45, 97, 102, 116, 101, 114]⟩, .slice (some ⟨ab, 0, none⟩) 2 2] W (Ans [textA AF] W))
    (Q40 : ∀ W ab, Below w.heap.size w W → Arg1 W ab 0 1 0 (textA s) → Calls Tryz.prog 9 #[.pointer none, .string ⟨#[115, 116, 114, 105, 110, 103, 45, 116, 111, 45, 99, 111, 100, 101, 112, 111, 105, 110, 116, 115]⟩, .slice (some ⟨ab, 0, none⟩) 1 1] W fun e w' => ∃ a c, e = .returned (.tuple #[.slice a PS.length c, .int .i64 0]) ∧ ItRow w' a (PS.map ofA) ∧ Below W.heap.size W w')
    (Q50 : ∀ W ab, Below w.heap.size w W → ArgR W ab 0 1 0 (PS.map ofA) → Calls Tryz.prog 9 #[.pointer none, .string ⟨#[99, 111, 100, 101, 112, 111, 105, 110, 116, 115, 45, 116, 111, 45, 115, 116, 114, 105, 110, 103]⟩, .slice (some ⟨ab, 0, none⟩) 1 1] W (Ans [textA s] W))
    (Q60 : ∀ W ab, Below w.heap.size w W → Arg1 W ab 0 3 0 (textA s) → Arg1 W ab 0 3 1 (ofA 1) → Arg1 W ab 0 3 2 (ofA K) → Calls Tryz.prog 9 #[.pointer none, .string ⟨#[115, 117, 98, 115, 116, 114, 105, 110, 103]⟩, .slice (some ⟨ab, 0, none⟩) 3 3] W (Ans [textA P] W))
    (Q70 : ∀ W ab, Below w.heap.size w W → Arg1 W ab 0 2 0 (textA s) → Arg1 W ab 0 2 1 (ofA (K + 1)) → Calls Tryz.prog 9 #[.pointer none, .string ⟨#[115, 117, 98, 115, 116, 114, 105, 110, 103]⟩, .slice (some ⟨ab, 0, none⟩) 2 2] W (Ans [textA R] W))
    (Q80 : ∀ W ab, Below w.heap.size w W → Arg1 W ab 0 2 0 (textA P) → Arg1 W ab 0 2 1 (textA R) → Calls Tryz.prog 9 #[.pointer none, .string ⟨#[99, 111, 110, 99, 97, 116]⟩, .slice (some ⟨ab, 0, none⟩) 2 2] W (Ans [textA s] W))
    (Q90 : ∀ W ab, Below w.heap.size w W → Arg1 W ab 0 1 0 (textA P) → Calls Tryz.prog 9 #[.pointer none, .string ⟨#[115, 116, 114, 105, 110, 103, 45, 108, 101, 110, 103, 116, 104]⟩, .slice (some ⟨ab, 0, none⟩) 1 1] W (Ans [ofA (min K (PS.length : Int))] W)) :
    Calls Tryz.prog 5 #[.string s, .string t, .int .i64 n] w fun e w' => e = .returned (.bool true) ∧ Below w.heap.size w w' := by
  have CW := Lib.hid CW0
  have Rs := Lib.hid Rs0
  have Rq := Lib.hid Rt0
  have Q1 := Lib.hid Q10
  have Q2 := Lib.hid Q20
  have Q3 := Lib.hid Q30
  have Q4 := Lib.hid Q40
  have Q5 := Lib.hid Q50
  have Q6 := Lib.hid Q60
  have Q7 := Lib.hid Q70
  have Q8 := Lib.hid Q80
  have Q9 := Lib.hid Q90
  have HOK := Lib.hid hok
  have HNO := Lib.hid hno
  have HSUM := Lib.hid hsum
  have CT := Lib.hid l19text_any
  have CF1 : Hid (∀ (n : Int) (W : World), Calls Tryz.prog 13 #[.slice (some ⟨W.heap.size, 0, none⟩) 1 1] (W.alloc (.cells #[.int .i64 n] 3)) fun e w' => ∃ a c, e = .returned (.slice a 1 c) ∧ ItRow w' a [ofA n] ∧ Below W.heap.size W w') := fun n W => l19of_new [n] (by show (1 : Nat) ≤ _; omega) W _ rfl
  have d1 : decide ((500 : Int) < (s.size : Int)) = false := decide_eq_false (by omega)
  have d2 : decide ((500 : Int) < (t.size : Int)) = false := decide_eq_false (by omega)
  have hs2 : s.size ≤ 65536 := by omega
  have ht2 : t.size ≤ 65536 := by omega
  have HKK := Lib.hid hK
  clear CW0 Rs0 Rt0 Q10 Q20 Q30 Q40 Q50 Q60 Q70 Q80 Q90 hok hno hsum hK
  have z0 : (0 : Nat) ≤ 65536 := by omega
  go_enter Tryz.func5, Tryz.ntmps5
  go_wp2_with fail
  with_reducible refine (CW.out _ (Below.refl _ _)).mono ?_
  rintro e w1 ⟨rfl, hw1⟩
  go_wp2_with fail
  with_reducible refine (Rs.out _).mono ?_
  rintro e w2 ⟨rfl, hb⟩
  have hw2 := hw1.trans (hb.mono hw1.size)
  clear hw1 hb
  go_wp2_with fail
  with_reducible refine (Rq.out _).mono ?_
  rintro e w0 ⟨rfl, hb⟩
  have h0 := hw2.trans (hb.mono hw2.size)
  clear hw2 hb
  go_wp2_with fail
  with_reducible refine (CT.out s w0).mono ?_
  rintro e v1 ⟨rfl, hI, hb⟩
  have hv1 := h0.trans (hb.mono h0.size)
  clear hb h0
  generalize w0.heap.size = kxH at *
  have HRxH := Lib.hid hI
  clear hI
  go_wp2_with fail
  with_reducible refine (CT.out t v1).mono ?_
  rintro e v2 ⟨rfl, hI, hb⟩
  have hv2 := hv1.trans (hb.mono hv1.size)
  replace HRxH := Lib.hid (HRxH.out.on hb)
  clear hb hv1
  generalize v1.heap.size = kyH at *
  have HRyH := Lib.hid hI
  clear hI
  go_wp2_with fail
  have Y1 : Blk (v2.alloc (.cells #[.slice (some ⟨kxH, 0, none⟩) 1 1, .slice (some ⟨kyH, 0, none⟩) 1 1] 29)) v2.heap.size #[.slice (some ⟨kxH, 0, none⟩) 1 1, .slice (some ⟨kyH, 0, none⟩) 1 1] 29 := Blk.new _ _ _
  have hbb : Below v2.heap.size v2 (v2.alloc (.cells #[.slice (some ⟨kxH, 0, none⟩) 1 1, .slice (some ⟨kyH, 0, none⟩) 1 1] 29)) := (Below.refl _ _).alloc (Nat.le_refl _) _
  have CX := Lib.hid (Q1.out _ v2.heap.size (hv2.trans (hbb.mono hv2.size)) (arg1_of Y1 rfl (HRxH.out.on hbb) (by omega) (by omega) hs2) (arg1_of Y1 rfl (HRyH.out.on hbb) (by omega) (by omega) ht2))
  have hsb := hbb.size
  with_reducible refine CX.out.mono ?_
  rintro e v3 ⟨v, rfl, hO, hb⟩
  replace hb := hbb.trans (hb.mono hsb)
  obtain ⟨bH, cH, rfl, hI⟩ := hO.one'
  clear hO
  clear CX Y1 hbb hsb
  have hv3 := hv2.trans (hb.mono hv2.size)
  replace HRxH := Lib.hid (HRxH.out.on hb)
  replace HRyH := Lib.hid (HRyH.out.on hb)
  clear hb hv2
  have HRH := Lib.hid hI
  clear hI
  clear HRxH HRyH
  go_wp2_with fail
  with_reducible refine (CT.out s v3).mono ?_
  rintro e v4 ⟨rfl, hI, hb⟩
  have hv4 := hv3.trans (hb.mono hv3.size)
  replace HRH := Lib.hid (HRH.out.on hb)
  clear hb hv3
  generalize v3.heap.size = kxB at *
  have HRxB := Lib.hid hI
  clear hI
  go_wp2_with fail
  with_reducible refine (CT.out t v4).mono ?_
  rintro e v5 ⟨rfl, hI, hb⟩
  have hv5 := hv4.trans (hb.mono hv4.size)
  replace HRH := Lib.hid (HRH.out.on hb)
  replace HRxB := Lib.hid (HRxB.out.on hb)
  clear hb hv4
  generalize v4.heap.size = kyB at *
  have HRyB := Lib.hid hI
  clear hI
  go_wp2_with fail
  have Y1 : Blk (v5.alloc (.cells #[.slice (some ⟨kxB, 0, none⟩) 1 1, .slice (some ⟨kyB, 0, none⟩) 1 1] 29)) v5.heap.size #[.slice (some ⟨kxB, 0, none⟩) 1 1, .slice (some ⟨kyB, 0, none⟩) 1 1] 29 := Blk.new _ _ _
  have hbb : Below v5.heap.size v5 (v5.alloc (.cells #[.slice (some ⟨kxB, 0, none⟩) 1 1, .slice (some ⟨kyB, 0, none⟩) 1 1] 29)) := (Below.refl _ _).alloc (Nat.le_refl _) _
  have CX := Lib.hid (Q2.out _ v5.heap.size (hv5.trans (hbb.mono hv5.size)) (arg1_of Y1 rfl (HRxB.out.on hbb) (by omega) (by omega) hs2) (arg1_of Y1 rfl (HRyB.out.on hbb) (by omega) (by omega) ht2))
  have hsb := hbb.size
  with_reducible refine CX.out.mono ?_
  rintro e v6 ⟨v, rfl, hO, hb⟩
  replace hb := hbb.trans (hb.mono hsb)
  obtain ⟨bB, cB, rfl, hI⟩ := hO.one'
  clear hO
  clear CX Y1 hbb hsb
  have hv6 := hv5.trans (hb.mono hv5.size)
  replace HRH := Lib.hid (HRH.out.on hb)
  replace HRxB := Lib.hid (HRxB.out.on hb)
  replace HRyB := Lib.hid (HRyB.out.on hb)
  clear hb hv5
  have HRB := Lib.hid hI
  clear hI
  clear HRxB HRyB
  go_wp2_with fail
  with_reducible refine (CT.out s v6).mono ?_
  rintro e v7 ⟨rfl, hI, hb⟩
  have hv7 := hv6.trans (hb.mono hv6.size)
  replace HRH := Lib.hid (HRH.out.on hb)
  replace HRB := Lib.hid (HRB.out.on hb)
  clear hb hv6
  generalize v6.heap.size = kxA at *
  have HRxA := Lib.hid hI
  clear hI
  go_wp2_with fail
  with_reducible refine (CT.out t v7).mono ?_
  rintro e v8 ⟨rfl, hI, hb⟩
  have hv8 := hv7.trans (hb.mono hv7.size)
  replace HRH := Lib.hid (HRH.out.on hb)
  replace HRB := Lib.hid (HRB.out.on hb)
  replace HRxA := Lib.hid (HRxA.out.on hb)
  clear hb hv7
  generalize v7.heap.size = kyA at *
  have HRyA := Lib.hid hI
  clear hI
  go_wp2_with fail
  have Y1 : Blk (v8.alloc (.cells #[.slice (some ⟨kxA, 0, none⟩) 1 1, .slice (some ⟨kyA, 0, none⟩) 1 1] 29)) v8.heap.size #[.slice (some ⟨kxA, 0, none⟩) 1 1, .slice (some ⟨kyA, 0, none⟩) 1 1] 29 := Blk.new _ _ _
  have hbb : Below v8.heap.size v8 (v8.alloc (.cells #[.slice (some ⟨kxA, 0, none⟩) 1 1, .slice (some ⟨kyA, 0, none⟩) 1 1] 29)) := (Below.refl _ _).alloc (Nat.le_refl _) _
  have CX := Lib.hid (Q3.out _ v8.heap.size (hv8.trans (hbb.mono hv8.size)) (arg1_of Y1 rfl (HRxA.out.on hbb) (by omega) (by omega) hs2) (arg1_of Y1 rfl (HRyA.out.on hbb) (by omega) (by omega) ht2))
  have hsb := hbb.size
  with_reducible refine CX.out.mono ?_
  rintro e v9 ⟨v, rfl, hO, hb⟩
  replace hb := hbb.trans (hb.mono hsb)
  obtain ⟨bA, cA, rfl, hI⟩ := hO.one'
  clear hO
  clear CX Y1 hbb hsb
  have hv9 := hv8.trans (hb.mono hv8.size)
  replace HRH := Lib.hid (HRH.out.on hb)
  replace HRB := Lib.hid (HRB.out.on hb)
  replace HRxA := Lib.hid (HRxA.out.on hb)
  replace HRyA := Lib.hid (HRyA.out.on hb)
  clear hb hv8
  have HRA := Lib.hid hI
  clear hI
  clear HRxA HRyA
  go_wp2_with fail
  with_reducible refine (CT.out s v9).mono ?_
  rintro e v10 ⟨rfl, hI, hb⟩
  have hv10 := hv9.trans (hb.mono hv9.size)
  replace HRH := Lib.hid (HRH.out.on hb)
  replace HRB := Lib.hid (HRB.out.on hb)
  replace HRA := Lib.hid (HRA.out.on hb)
  clear hb hv9
  generalize v9.heap.size = kxp at *
  have HRxp := Lib.hid hI
  clear hI
  go_wp2_with fail
  have Y1 : Blk (v10.alloc (.cells #[.slice (some ⟨kxp, 0, none⟩) 1 1] 29)) v10.heap.size #[.slice (some ⟨kxp, 0, none⟩) 1 1] 29 := Blk.new _ _ _
  have hbb : Below v10.heap.size v10 (v10.alloc (.cells #[.slice (some ⟨kxp, 0, none⟩) 1 1] 29)) := (Below.refl _ _).alloc (Nat.le_refl _) _
  have CX := Lib.hid (Q4.out _ v10.heap.size (hv10.trans (hbb.mono hv10.size)) (arg1_of Y1 rfl (HRxp.out.on hbb) (by omega) (by omega) hs2))
  have hsb := hbb.size
  with_reducible refine CX.out.mono ?_
  rintro e v11 ⟨ap, cp, rfl, hI, hb⟩
  replace hb := hbb.trans (hb.mono hsb)
  clear CX Y1 hbb hsb
  have hv11 := hv10.trans (hb.mono hv10.size)
  replace HRH := Lib.hid (HRH.out.on hb)
  replace HRB := Lib.hid (HRB.out.on hb)
  replace HRA := Lib.hid (HRA.out.on hb)
  replace HRxp := Lib.hid (HRxp.out.on hb)
  clear hb hv10
  have HRp := Lib.hid hI
  clear hI
  clear HRxp
  go_wp2_with fail
  have Y1 : Blk (v11.alloc (.cells #[.slice ap PS.length cp] 29)) v11.heap.size #[.slice ap PS.length cp] 29 := Blk.new _ _ _
  have hbb : Below v11.heap.size v11 (v11.alloc (.cells #[.slice ap PS.length cp] 29)) := (Below.refl _ _).alloc (Nat.le_refl _) _
  have CX := Lib.hid (Q5.out _ v11.heap.size (hv11.trans (hbb.mono hv11.size)) (argR_of (c := cp) Y1 (by simp) (HRp.out.on hbb) (by omega) (by omega) HSUM.out (by rw [List.length_map]; omega)))
  have hsb := hbb.size
  with_reducible refine CX.out.mono ?_
  rintro e v12 ⟨v, rfl, hO, hb⟩
  replace hb := hbb.trans (hb.mono hsb)
  obtain ⟨bk, ck, rfl, hI⟩ := hO.one'
  clear hO
  clear CX Y1 hbb hsb
  have hv12 := hv11.trans (hb.mono hv11.size)
  replace HRH := Lib.hid (HRH.out.on hb)
  replace HRB := Lib.hid (HRB.out.on hb)
  replace HRA := Lib.hid (HRA.out.on hb)
  replace HRp := Lib.hid (HRp.out.on hb)
  clear hb hv11
  have HRk := Lib.hid hI
  clear hI
  go_wp2_with fail
  with_reducible refine (CT.out s v12).mono ?_
  rintro e v13 ⟨rfl, hI, hb⟩
  have hv13 := hv12.trans (hb.mono hv12.size)
  replace HRH := Lib.hid (HRH.out.on hb)
  replace HRB := Lib.hid (HRB.out.on hb)
  replace HRA := Lib.hid (HRA.out.on hb)
  replace HRp := Lib.hid (HRp.out.on hb)
  replace HRk := Lib.hid (HRk.out.on hb)
  clear hb hv12
  generalize v12.heap.size = kxk at *
  have HRxk := Lib.hid hI
  clear hI
  have CS : Hid (Calls Tryz.prog 10 #[.slice (some ⟨bk, 0, none⟩) 1 ck, .slice (some ⟨kxk, 0, none⟩) 1 1] v13 fun e w' => e = .returned (.bool true) ∧ Below v13.heap.size v13 w') := same_eq [textA s] _ _ _ _ v13 HRk.out HRxk.out (by show (1 : Nat) ≤ _; omega)
  go_wp2_with fail
  with_reducible refine CS.out.mono ?_
  rintro e v14 ⟨rfl, hb⟩
  clear CS
  have hv14 := hv13.trans (hb.mono hv13.size)
  replace HRH := Lib.hid (HRH.out.on hb)
  replace HRB := Lib.hid (HRB.out.on hb)
  replace HRA := Lib.hid (HRA.out.on hb)
  replace HRp := Lib.hid (HRp.out.on hb)
  replace HRk := Lib.hid (HRk.out.on hb)
  replace HRxk := Lib.hid (HRxk.out.on hb)
  clear hb hv13
  clear HRk HRxk
  cases ok
  · obtain ⟨rfl, rfl⟩ := HNO.out rfl
    have he : (⟨#[]⟩ : ByteArray) ++ (⟨#[]⟩ : ByteArray) = ⟨#[]⟩ := by rfl
    clear HOK HNO
    obtain ⟨kH, -, -, -, -, -, gH⟩ := HRH.out.six'
    replace gH : v14.cell? ⟨bH, 5, none⟩ = some (.bool false) := gH
    obtain ⟨kB, -, -, -, -, gB, -⟩ := HRB.out.six'
    replace gB : v14.cell? ⟨bB, 4, none⟩ = some (.string ⟨#[]⟩) := gB
    obtain ⟨kA, -, -, -, -, gA, -⟩ := HRA.out.six'
    replace gA : v14.cell? ⟨bA, 4, none⟩ = some (.string ⟨#[]⟩) := gA
    go_wp2_with fail
    go_quiet (fail)
    have hb : Below v14.heap.size v14 (v14.drewN nq) := ⟨rfl, rfl, rfl, Nat.le_refl _, fun _ _ => rfl⟩
    clear kH kB kA gH gB gA
    clear HRH HRB HRA
    have hq1 := hv14.trans (hb.mono hv14.size)
    replace HRp := Lib.hid (HRp.out.on hb)
    clear hb hv14
    generalize v14.drewN nq = u0 at *
    have hK := HKK.out
    go_wp2_with fail
    with_reducible refine (CT.out s u0).mono ?_
    rintro e v15 ⟨rfl, hI, hb⟩
    have hv15 := hq1.trans (hb.mono hq1.size)
    replace HRp := Lib.hid (HRp.out.on hb)
    clear hb hq1
    generalize u0.heap.size = kx6 at *
    have HRx6 := Lib.hid hI
    clear hI
    clear hK hm1 hm2
    go_wp2_with fail
    with_reducible refine (CF1.out 1 v15).mono ?_
    rintro e v16 ⟨ay6, cy6, rfl, hI, hb⟩
    have hv16 := hv15.trans (hb.mono hv15.size)
    replace HRp := Lib.hid (HRp.out.on hb)
    replace HRx6 := Lib.hid (HRx6.out.on hb)
    clear hb hv15
    have HRy6 := Lib.hid hI
    clear hI
    go_wp2_with fail
    with_reducible refine (CF1.out K v16).mono ?_
    rintro e v17 ⟨az6, cz6, rfl, hI, hb⟩
    have hv17 := hv16.trans (hb.mono hv16.size)
    replace HRp := Lib.hid (HRp.out.on hb)
    replace HRx6 := Lib.hid (HRx6.out.on hb)
    replace HRy6 := Lib.hid (HRy6.out.on hb)
    clear hb hv16
    have HRz6 := Lib.hid hI
    clear hI
    go_wp2_with fail
    have Y1 : Blk (v17.alloc (.cells #[.slice (some ⟨kx6, 0, none⟩) 1 1, .slice ay6 1 cy6, .slice az6 1 cz6] 29)) v17.heap.size #[.slice (some ⟨kx6, 0, none⟩) 1 1, .slice ay6 1 cy6, .slice az6 1 cz6] 29 := Blk.new _ _ _
    have hbb : Below v17.heap.size v17 (v17.alloc (.cells #[.slice (some ⟨kx6, 0, none⟩) 1 1, .slice ay6 1 cy6, .slice az6 1 cz6] 29)) := (Below.refl _ _).alloc (Nat.le_refl _) _
    have CX := Lib.hid (Q6.out _ v17.heap.size (hv17.trans (hbb.mono hv17.size)) (arg1_of Y1 rfl (HRx6.out.on hbb) (by omega) (by omega) hs2) (arg1_of Y1 rfl (HRy6.out.on hbb) (by omega) (by omega) z0) (arg1_of Y1 rfl (HRz6.out.on hbb) (by omega) (by omega) z0))
    have hsb := hbb.size
    with_reducible refine CX.out.mono ?_
    rintro e v18 ⟨v, rfl, hO, hb⟩
    replace hb := hbb.trans (hb.mono hsb)
    obtain ⟨bP, cP, rfl, hI⟩ := hO.one'
    clear hO
    clear CX Y1 hbb hsb
    have hv18 := hv17.trans (hb.mono hv17.size)
    replace HRp := Lib.hid (HRp.out.on hb)
    replace HRx6 := Lib.hid (HRx6.out.on hb)
    replace HRy6 := Lib.hid (HRy6.out.on hb)
    replace HRz6 := Lib.hid (HRz6.out.on hb)
    clear hb hv17
    have HRP := Lib.hid hI
    clear hI
    clear HRx6 HRy6 HRz6
    go_wp2_with fail
    with_reducible refine (CT.out s v18).mono ?_
    rintro e v19 ⟨rfl, hI, hb⟩
    have hv19 := hv18.trans (hb.mono hv18.size)
    replace HRp := Lib.hid (HRp.out.on hb)
    replace HRP := Lib.hid (HRP.out.on hb)
    clear hb hv18
    generalize v18.heap.size = kx7 at *
    have HRx7 := Lib.hid hI
    clear hI
    go_wp2_with fail
    with_reducible refine (CF1.out (K + 1) v19).mono ?_
    rintro e v20 ⟨ay7, cy7, rfl, hI, hb⟩
    have hv20 := hv19.trans (hb.mono hv19.size)
    replace HRp := Lib.hid (HRp.out.on hb)
    replace HRP := Lib.hid (HRP.out.on hb)
    replace HRx7 := Lib.hid (HRx7.out.on hb)
    clear hb hv19
    have HRy7 := Lib.hid hI
    clear hI
    go_wp2_with fail
    have Y1 : Blk (v20.alloc (.cells #[.slice (some ⟨kx7, 0, none⟩) 1 1, .slice ay7 1 cy7] 29)) v20.heap.size #[.slice (some ⟨kx7, 0, none⟩) 1 1, .slice ay7 1 cy7] 29 := Blk.new _ _ _
    have hbb : Below v20.heap.size v20 (v20.alloc (.cells #[.slice (some ⟨kx7, 0, none⟩) 1 1, .slice ay7 1 cy7] 29)) := (Below.refl _ _).alloc (Nat.le_refl _) _
    have CX := Lib.hid (Q7.out _ v20.heap.size (hv20.trans (hbb.mono hv20.size)) (arg1_of Y1 rfl (HRx7.out.on hbb) (by omega) (by omega) hs2) (arg1_of Y1 rfl (HRy7.out.on hbb) (by omega) (by omega) z0))
    have hsb := hbb.size
    with_reducible refine CX.out.mono ?_
    rintro e v21 ⟨v, rfl, hO, hb⟩
    replace hb := hbb.trans (hb.mono hsb)
    obtain ⟨bR, cR, rfl, hI⟩ := hO.one'
    clear hO
    clear CX Y1 hbb hsb
    have hv21 := hv20.trans (hb.mono hv20.size)
    replace HRp := Lib.hid (HRp.out.on hb)
    replace HRP := Lib.hid (HRP.out.on hb)
    replace HRx7 := Lib.hid (HRx7.out.on hb)
    replace HRy7 := Lib.hid (HRy7.out.on hb)
    clear hb hv20
    have HRR := Lib.hid hI
    clear hI
    clear HRx7 HRy7
    go_wp2_with fail
    have Y1 : Blk (v21.alloc (.cells #[.slice (some ⟨bP, 0, none⟩) 1 cP, .slice (some ⟨bR, 0, none⟩) 1 cR] 29)) v21.heap.size #[.slice (some ⟨bP, 0, none⟩) 1 cP, .slice (some ⟨bR, 0, none⟩) 1 cR] 29 := Blk.new _ _ _
    have hbb : Below v21.heap.size v21 (v21.alloc (.cells #[.slice (some ⟨bP, 0, none⟩) 1 cP, .slice (some ⟨bR, 0, none⟩) 1 cR] 29)) := (Below.refl _ _).alloc (Nat.le_refl _) _
    have CX := Lib.hid (Q8.out _ v21.heap.size (hv21.trans (hbb.mono hv21.size)) (arg1_of Y1 rfl (HRP.out.on hbb) (by omega) (by omega) hP) (arg1_of Y1 rfl (HRR.out.on hbb) (by omega) (by omega) hR))
    have hsb := hbb.size
    with_reducible refine CX.out.mono ?_
    rintro e v22 ⟨v, rfl, hO, hb⟩
    replace hb := hbb.trans (hb.mono hsb)
    obtain ⟨bb, cb, rfl, hI⟩ := hO.one'
    clear hO
    clear CX Y1 hbb hsb
    have hv22 := hv21.trans (hb.mono hv21.size)
    replace HRp := Lib.hid (HRp.out.on hb)
    replace HRP := Lib.hid (HRP.out.on hb)
    replace HRR := Lib.hid (HRR.out.on hb)
    clear hb hv21
    have HRb := Lib.hid hI
    clear hI
    clear HRR
    go_wp2_with fail
    have Y1 : Blk (v22.alloc (.cells #[.slice (some ⟨bP, 0, none⟩) 1 cP] 29)) v22.heap.size #[.slice (some ⟨bP, 0, none⟩) 1 cP] 29 := Blk.new _ _ _
    have hbb : Below v22.heap.size v22 (v22.alloc (.cells #[.slice (some ⟨bP, 0, none⟩) 1 cP] 29)) := (Below.refl _ _).alloc (Nat.le_refl _) _
    have CX := Lib.hid (Q9.out _ v22.heap.size (hv22.trans (hbb.mono hv22.size)) (arg1_of Y1 rfl (HRP.out.on hbb) (by omega) (by omega) hP))
    have hsb := hbb.size
    with_reducible refine CX.out.mono ?_
    rintro e v23 ⟨v, rfl, hO, hb⟩
    replace hb := hbb.trans (hb.mono hsb)
    obtain ⟨bz, cz, rfl, hI⟩ := hO.one'
    clear hO
    clear CX Y1 hbb hsb
    have hv23 := hv22.trans (hb.mono hv22.size)
    replace HRp := Lib.hid (HRp.out.on hb)
    replace HRP := Lib.hid (HRP.out.on hb)
    replace HRb := Lib.hid (HRb.out.on hb)
    clear hb hv22
    have HRz := Lib.hid hI
    clear hI
    clear HRP
    go_wp2_with fail
    with_reducible refine (CT.out s v23).mono ?_
    rintro e v24 ⟨rfl, hI, hb⟩
    have hv24 := hv23.trans (hb.mono hv23.size)
    replace HRp := Lib.hid (HRp.out.on hb)
    replace HRb := Lib.hid (HRb.out.on hb)
    replace HRz := Lib.hid (HRz.out.on hb)
    clear hb hv23
    generalize v23.heap.size = kx9 at *
    have HRx9 := Lib.hid hI
    clear hI
    have CS : Hid (Calls Tryz.prog 10 #[.slice (some ⟨bb, 0, none⟩) 1 cb, .slice (some ⟨kx9, 0, none⟩) 1 1] v24 fun e w' => e = .returned (.bool true) ∧ Below v24.heap.size v24 w') := same_eq [textA s] _ _ _ _ v24 HRb.out HRx9.out (by show (1 : Nat) ≤ _; omega)
    go_wp2_with fail
    with_reducible refine CS.out.mono ?_
    rintro e v25 ⟨rfl, hb⟩
    clear CS
    have hv25 := hv24.trans (hb.mono hv24.size)
    replace HRp := Lib.hid (HRp.out.on hb)
    replace HRb := Lib.hid (HRb.out.on hb)
    replace HRz := Lib.hid (HRz.out.on hb)
    replace HRx9 := Lib.hid (HRx9.out.on hb)
    clear hb hv24
    clear HRb HRx9
    obtain ⟨kz, -, -, gz, -, -, -⟩ := HRz.out.six'
    replace gz : v25.cell? ⟨bz, 2, none⟩ = some (.int .i64 (min K (PS.length : Int))) := gz
    go_wp2_with fail
    go_returns
    exact ⟨rfl, hv25⟩
  · have hcat := HOK.out rfl
    have hz := congrArg ByteArray.size hcat
    rw [ByteArray.size_append, ByteArray.size_append] at hz
    have hz1 : BE.size + t.size ≤ 500 := by omega
    have hz2 : BE.size + t.size + AF.size ≤ 500 := by omega
    clear HOK HNO hz
    obtain ⟨kH, -, -, -, -, -, gH⟩ := HRH.out.six'
    replace gH : v14.cell? ⟨bH, 5, none⟩ = some (.bool true) := gH
    obtain ⟨kB, -, -, -, -, gB, -⟩ := HRB.out.six'
    replace gB : v14.cell? ⟨bB, 4, none⟩ = some (.string BE) := gB
    obtain ⟨kA, -, -, -, -, gA, -⟩ := HRA.out.six'
    replace gA : v14.cell? ⟨bA, 4, none⟩ = some (.string AF) := gA
    go_wp2_with fail
    go_quiet (fail)
    have hb : Below v14.heap.size v14 (v14.drewN nq) := ⟨rfl, rfl, rfl, Nat.le_refl _, fun _ _ => rfl⟩
    clear kH kB kA gH gB gA
    clear HRH HRB HRA
    have hq1 := hv14.trans (hb.mono hv14.size)
    replace HRp := Lib.hid (HRp.out.on hb)
    clear hb hv14
    generalize v14.drewN nq = u0 at *
    have hK := HKK.out
    go_wp2_with fail
    with_reducible refine (CT.out s u0).mono ?_
    rintro e v15 ⟨rfl, hI, hb⟩
    have hv15 := hq1.trans (hb.mono hq1.size)
    replace HRp := Lib.hid (HRp.out.on hb)
    clear hb hq1
    generalize u0.heap.size = kx6 at *
    have HRx6 := Lib.hid hI
    clear hI
    clear hK hm1 hm2
    go_wp2_with fail
    with_reducible refine (CF1.out 1 v15).mono ?_
    rintro e v16 ⟨ay6, cy6, rfl, hI, hb⟩
    have hv16 := hv15.trans (hb.mono hv15.size)
    replace HRp := Lib.hid (HRp.out.on hb)
    replace HRx6 := Lib.hid (HRx6.out.on hb)
    clear hb hv15
    have HRy6 := Lib.hid hI
    clear hI
    go_wp2_with fail
    with_reducible refine (CF1.out K v16).mono ?_
    rintro e v17 ⟨az6, cz6, rfl, hI, hb⟩
    have hv17 := hv16.trans (hb.mono hv16.size)
    replace HRp := Lib.hid (HRp.out.on hb)
    replace HRx6 := Lib.hid (HRx6.out.on hb)
    replace HRy6 := Lib.hid (HRy6.out.on hb)
    clear hb hv16
    have HRz6 := Lib.hid hI
    clear hI
    go_wp2_with fail
    have Y1 : Blk (v17.alloc (.cells #[.slice (some ⟨kx6, 0, none⟩) 1 1, .slice ay6 1 cy6, .slice az6 1 cz6] 29)) v17.heap.size #[.slice (some ⟨kx6, 0, none⟩) 1 1, .slice ay6 1 cy6, .slice az6 1 cz6] 29 := Blk.new _ _ _
    have hbb : Below v17.heap.size v17 (v17.alloc (.cells #[.slice (some ⟨kx6, 0, none⟩) 1 1, .slice ay6 1 cy6, .slice az6 1 cz6] 29)) := (Below.refl _ _).alloc (Nat.le_refl _) _
    have CX := Lib.hid (Q6.out _ v17.heap.size (hv17.trans (hbb.mono hv17.size)) (arg1_of Y1 rfl (HRx6.out.on hbb) (by omega) (by omega) hs2) (arg1_of Y1 rfl (HRy6.out.on hbb) (by omega) (by omega) z0) (arg1_of Y1 rfl (HRz6.out.on hbb) (by omega) (by omega) z0))
    have hsb := hbb.size
    with_reducible refine CX.out.mono ?_
    rintro e v18 ⟨v, rfl, hO, hb⟩
    replace hb := hbb.trans (hb.mono hsb)
    obtain ⟨bP, cP, rfl, hI⟩ := hO.one'
    clear hO
    clear CX Y1 hbb hsb
    have hv18 := hv17.trans (hb.mono hv17.size)
    replace HRp := Lib.hid (HRp.out.on hb)
    replace HRx6 := Lib.hid (HRx6.out.on hb)
    replace HRy6 := Lib.hid (HRy6.out.on hb)
    replace HRz6 := Lib.hid (HRz6.out.on hb)
    clear hb hv17
    have HRP := Lib.hid hI
    clear hI
    clear HRx6 HRy6 HRz6
    go_wp2_with fail
    with_reducible refine (CT.out s v18).mono ?_
    rintro e v19 ⟨rfl, hI, hb⟩
    have hv19 := hv18.trans (hb.mono hv18.size)
    replace HRp := Lib.hid (HRp.out.on hb)
    replace HRP := Lib.hid (HRP.out.on hb)
    clear hb hv18
    generalize v18.heap.size = kx7 at *
    have HRx7 := Lib.hid hI
    clear hI
    go_wp2_with fail
    with_reducible refine (CF1.out (K + 1) v19).mono ?_
    rintro e v20 ⟨ay7, cy7, rfl, hI, hb⟩
    have hv20 := hv19.trans (hb.mono hv19.size)
    replace HRp := Lib.hid (HRp.out.on hb)
    replace HRP := Lib.hid (HRP.out.on hb)
    replace HRx7 := Lib.hid (HRx7.out.on hb)
    clear hb hv19
    have HRy7 := Lib.hid hI
    clear hI
    go_wp2_with fail
    have Y1 : Blk (v20.alloc (.cells #[.slice (some ⟨kx7, 0, none⟩) 1 1, .slice ay7 1 cy7] 29)) v20.heap.size #[.slice (some ⟨kx7, 0, none⟩) 1 1, .slice ay7 1 cy7] 29 := Blk.new _ _ _
    have hbb : Below v20.heap.size v20 (v20.alloc (.cells #[.slice (some ⟨kx7, 0, none⟩) 1 1, .slice ay7 1 cy7] 29)) := (Below.refl _ _).alloc (Nat.le_refl _) _
    have CX := Lib.hid (Q7.out _ v20.heap.size (hv20.trans (hbb.mono hv20.size)) (arg1_of Y1 rfl (HRx7.out.on hbb) (by omega) (by omega) hs2) (arg1_of Y1 rfl (HRy7.out.on hbb) (by omega) (by omega) z0))
    have hsb := hbb.size
    with_reducible refine CX.out.mono ?_
    rintro e v21 ⟨v, rfl, hO, hb⟩
    replace hb := hbb.trans (hb.mono hsb)
    obtain ⟨bR, cR, rfl, hI⟩ := hO.one'
    clear hO
    clear CX Y1 hbb hsb
    have hv21 := hv20.trans (hb.mono hv20.size)
    replace HRp := Lib.hid (HRp.out.on hb)
    replace HRP := Lib.hid (HRP.out.on hb)
    replace HRx7 := Lib.hid (HRx7.out.on hb)
    replace HRy7 := Lib.hid (HRy7.out.on hb)
    clear hb hv20
    have HRR := Lib.hid hI
    clear hI
    clear HRx7 HRy7
    go_wp2_with fail
    have Y1 : Blk (v21.alloc (.cells #[.slice (some ⟨bP, 0, none⟩) 1 cP, .slice (some ⟨bR, 0, none⟩) 1 cR] 29)) v21.heap.size #[.slice (some ⟨bP, 0, none⟩) 1 cP, .slice (some ⟨bR, 0, none⟩) 1 cR] 29 := Blk.new _ _ _
    have hbb : Below v21.heap.size v21 (v21.alloc (.cells #[.slice (some ⟨bP, 0, none⟩) 1 cP, .slice (some ⟨bR, 0, none⟩) 1 cR] 29)) := (Below.refl _ _).alloc (Nat.le_refl _) _
    have CX := Lib.hid (Q8.out _ v21.heap.size (hv21.trans (hbb.mono hv21.size)) (arg1_of Y1 rfl (HRP.out.on hbb) (by omega) (by omega) hP) (arg1_of Y1 rfl (HRR.out.on hbb) (by omega) (by omega) hR))
    have hsb := hbb.size
    with_reducible refine CX.out.mono ?_
    rintro e v22 ⟨v, rfl, hO, hb⟩
    replace hb := hbb.trans (hb.mono hsb)
    obtain ⟨bb, cb, rfl, hI⟩ := hO.one'
    clear hO
    clear CX Y1 hbb hsb
    have hv22 := hv21.trans (hb.mono hv21.size)
    replace HRp := Lib.hid (HRp.out.on hb)
    replace HRP := Lib.hid (HRP.out.on hb)
    replace HRR := Lib.hid (HRR.out.on hb)
    clear hb hv21
    have HRb := Lib.hid hI
    clear hI
    clear HRR
    go_wp2_with fail
    have Y1 : Blk (v22.alloc (.cells #[.slice (some ⟨bP, 0, none⟩) 1 cP] 29)) v22.heap.size #[.slice (some ⟨bP, 0, none⟩) 1 cP] 29 := Blk.new _ _ _
    have hbb : Below v22.heap.size v22 (v22.alloc (.cells #[.slice (some ⟨bP, 0, none⟩) 1 cP] 29)) := (Below.refl _ _).alloc (Nat.le_refl _) _
    have CX := Lib.hid (Q9.out _ v22.heap.size (hv22.trans (hbb.mono hv22.size)) (arg1_of Y1 rfl (HRP.out.on hbb) (by omega) (by omega) hP))
    have hsb := hbb.size
    with_reducible refine CX.out.mono ?_
    rintro e v23 ⟨v, rfl, hO, hb⟩
    replace hb := hbb.trans (hb.mono hsb)
    obtain ⟨bz, cz, rfl, hI⟩ := hO.one'
    clear hO
    clear CX Y1 hbb hsb
    have hv23 := hv22.trans (hb.mono hv22.size)
    replace HRp := Lib.hid (HRp.out.on hb)
    replace HRP := Lib.hid (HRP.out.on hb)
    replace HRb := Lib.hid (HRb.out.on hb)
    clear hb hv22
    have HRz := Lib.hid hI
    clear hI
    clear HRP
    go_wp2_with fail
    with_reducible refine (CT.out s v23).mono ?_
    rintro e v24 ⟨rfl, hI, hb⟩
    have hv24 := hv23.trans (hb.mono hv23.size)
    replace HRp := Lib.hid (HRp.out.on hb)
    replace HRb := Lib.hid (HRb.out.on hb)
    replace HRz := Lib.hid (HRz.out.on hb)
    clear hb hv23
    generalize v23.heap.size = kx9 at *
    have HRx9 := Lib.hid hI
    clear hI
    have CS : Hid (Calls Tryz.prog 10 #[.slice (some ⟨bb, 0, none⟩) 1 cb, .slice (some ⟨kx9, 0, none⟩) 1 1] v24 fun e w' => e = .returned (.bool true) ∧ Below v24.heap.size v24 w') := same_eq [textA s] _ _ _ _ v24 HRb.out HRx9.out (by show (1 : Nat) ≤ _; omega)
    go_wp2_with fail
    with_reducible refine CS.out.mono ?_
    rintro e v25 ⟨rfl, hb⟩
    clear CS
    have hv25 := hv24.trans (hb.mono hv24.size)
    replace HRp := Lib.hid (HRp.out.on hb)
    replace HRb := Lib.hid (HRb.out.on hb)
    replace HRz := Lib.hid (HRz.out.on hb)
    replace HRx9 := Lib.hid (HRx9.out.on hb)
    clear hb hv24
    clear HRb HRx9
    obtain ⟨kz, -, -, gz, -, -, -⟩ := HRz.out.six'
    replace gz : v25.cell? ⟨bz, 2, none⟩ = some (.int .i64 (min K (PS.length : Int))) := gz
    go_wp2_with fail
    go_returns
    exact ⟨rfl, hv25⟩
end Go.Proofs.YtfagfkfcokmclaaGreatDoor
