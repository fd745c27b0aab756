/- LibRounds' walk at the kind 2 (printed by lce.py). -/
import Derived.Test.YtfagfkfcokmclaaGreatDoorZLcE
set_option linter.unusedSimpArgs false
set_option linter.unusedVariables false
set_option linter.constructorNameAsVariable false
namespace Go.Proofs.YtfagfkfcokmclaaGreatDoor
open Go.RowKit Go.Sort
set_option maxRecDepth 100000 in
set_option maxHeartbeats 8000000 in
theorem rounds_main2 (n s : Int) (t : ByteArray) (b : Bool) (FF CC RR AA SS ol oh : Int) (w : World) (ht : t.size ≤ 65536)
    (hn : -1000000000000000000 ≤ n ∧ n ≤ 1000000000000000000) (hF : -1000000000000000000 ≤ FF ∧ FF ≤ 1000000000000000000) (hC : -1000000000000000000 ≤ CC ∧ CC ≤ 1000000000000000000)
    (hA : 0 ≤ AA) (gd : CC - FF ≤ 1) (ge : FF ≤ CC) (h3 : RR = FF ∨ RR = CC) (ho : ol ≤ 0) (ho2 : 0 ≤ oh)
    (CW0 : ∀ W, Below w.heap.size w W → Calls Tryz.prog 7 #[] W fun e w' => e = .returned (.bool true) ∧ Below W.heap.size W w')
    (CR0 : ∀ W, Calls Tryz.prog 8 #[.agg #[.int .i64 2, .int .i64 n, .int .i64 s, .string t, .bool b]] W fun e w' => e = .returned (.bool true) ∧ Below W.heap.size W w')
    (Cf0 : ∀ W ab, Below w.heap.size w W → Arg1 W ab 0 1 0 ⟨2, n, s, t, b⟩ → Calls Tryz.prog 9 #[.pointer none, .string ⟨#[102, 108, 111, 111, 114]⟩, .slice (some ⟨ab, 0, none⟩) 1 1] W (Ans [⟨2, FF, 0, ⟨#[]⟩, false⟩] W))
    (Cc0 : ∀ W ab, Below w.heap.size w W → Arg1 W ab 0 1 0 ⟨2, n, s, t, b⟩ → Calls Tryz.prog 9 #[.pointer none, .string ⟨#[99, 101, 105, 108, 105, 110, 103]⟩, .slice (some ⟨ab, 0, none⟩) 1 1] W (Ans [⟨2, CC, 0, ⟨#[]⟩, false⟩] W))
    (Cr0 : ∀ W ab, Below w.heap.size w W → Arg1 W ab 0 1 0 ⟨2, n, s, t, b⟩ → Calls Tryz.prog 9 #[.pointer none, .string ⟨#[114, 111, 117, 110, 100]⟩, .slice (some ⟨ab, 0, none⟩) 1 1] W (Ans [⟨2, RR, 0, ⟨#[]⟩, false⟩] W))
    (Ca0 : ∀ W ab, Below w.heap.size w W → Arg1 W ab 0 1 0 ⟨2, n, s, t, b⟩ → Calls Tryz.prog 9 #[.pointer none, .string ⟨#[97, 98, 115]⟩, .slice (some ⟨ab, 0, none⟩) 1 1] W (Ans [⟨2, AA, SS, ⟨#[]⟩, false⟩] W))
    (Cb0 : ∀ W ab, Below w.heap.size w W → Arg1 W ab 0 1 0 ⟨2, -n, s, t, b⟩ → Calls Tryz.prog 9 #[.pointer none, .string ⟨#[97, 98, 115]⟩, .slice (some ⟨ab, 0, none⟩) 1 1] W (Ans [⟨2, AA, SS, ⟨#[]⟩, false⟩] W))
    (Ol0 : ∀ W, Calls Tryz.prog 11 #[.agg #[.int .i64 2, .int .i64 FF, .int .i64 0, .string ⟨#[]⟩, .bool false], .agg #[.int .i64 2, .int .i64 n, .int .i64 s, .string t, .bool b]] W fun e w' => e = .returned (.tuple #[.int .i64 ol, .int .i64 0]) ∧ Below W.heap.size W w')
    (Oh0 : ∀ W, Calls Tryz.prog 11 #[.agg #[.int .i64 2, .int .i64 CC, .int .i64 0, .string ⟨#[]⟩, .bool false], .agg #[.int .i64 2, .int .i64 n, .int .i64 s, .string t, .bool b]] W fun e w' => e = .returned (.tuple #[.int .i64 oh, .int .i64 0]) ∧ Below W.heap.size W w') :
    Calls Tryz.prog 3 #[.agg #[.int .i64 2, .int .i64 n, .int .i64 s, .string t, .bool b]] w fun e w' => e = .returned (.bool true) ∧ Below w.heap.size w w' := by
  have CW := Lib.hid CW0
  have CR := Lib.hid CR0
  have Cf := Lib.hid Cf0
  have Cc := Lib.hid Cc0
  have Cr := Lib.hid Cr0
  have Ca := Lib.hid Ca0
  have Cb := Lib.hid Cb0
  have Ol := Lib.hid Ol0
  have Oh := Lib.hid Oh0
  have H3 := Lib.hid h3
  obtain ⟨FA, hFA⟩ : ∃ FA : Array Value, FA = #[.int .i64 2, .int .i64 FF, .int .i64 0, .string ⟨#[]⟩, .bool false] := ⟨_, rfl⟩
  obtain ⟨FC, hFC⟩ : ∃ FC : Array Value, FC = #[.int .i64 2, .int .i64 CC, .int .i64 0, .string ⟨#[]⟩, .bool false] := ⟨_, rfl⟩
  have HFA := Lib.hid hFA
  have HFC := Lib.hid hFC
  clear CW0 CR0 Cf0 Cc0 Cr0 Ca0 Cb0 Ol0 Oh0 h3 hFA hFC
  have hw0 : Below w.heap.size w (w.alloc (.cells #[.int .i64 2, .int .i64 n, .int .i64 s, .string t, .bool b] 24)) := (Below.refl _ _).alloc (Nat.le_refl _) _
  have B0 : Blk (w.alloc (.cells #[.int .i64 2, .int .i64 n, .int .i64 s, .string t, .bool b] 24)) w.heap.size #[.int .i64 2, .int .i64 n, .int .i64 s, .string t, .bool b] 24 := Blk.new _ _ _
  go_enter Tryz.func3, Tryz.ntmps3
  go_wp2_with fail
  generalize w.alloc (.cells #[.int .i64 2, .int .i64 n, .int .i64 s, .string t, .bool b] 24) = W0 at *
  with_reducible refine (CW.out _ hw0).mono ?_
  rintro e w1 ⟨rfl, hb⟩
  have hw1 := hw0.trans (hb.mono hw0.size)
  have B1 := B0.below hb B0.lt
  obtain ⟨⟨a0, a1, a2, a3, a4⟩, -⟩ := B1.five
  have ka := B1.lt
  clear B0 hb hw0
  go_wp2_with fail
  with_reducible refine (CR.out _).mono ?_
  rintro e w2 ⟨rfl, hb⟩
  have hw2 := hw1.trans (hb.mono hw1.size)
  replace B1 := B1.below hb B1.lt
  clear a0 a1 a2 a3 a4 ka hb hw1
  obtain ⟨⟨a0, a1, a2, a3, a4⟩, -⟩ := B1.five
  have ka := B1.lt
  have X0 : Blk (w2.alloc (.cells #[.int .i64 0, .int .i64 2, .int .i64 n, .int .i64 s, .string t, .bool b] 28)) w2.heap.size #[.int .i64 0, .int .i64 2, .int .i64 n, .int .i64 s, .string t, .bool b] 28 := Blk.new _ _ _
  have X1 : Blk ((w2.alloc (.cells #[.int .i64 0, .int .i64 2, .int .i64 n, .int .i64 s, .string t, .bool b] 28)).alloc (.cells #[.slice (some ⟨w2.heap.size, 0, none⟩) 1 1] 29)) (w2.heap.size + 1) #[.slice (some ⟨w2.heap.size, 0, none⟩) 1 1] 29 := by
    have := Blk.new (w2.alloc (.cells #[.int .i64 0, .int .i64 2, .int .i64 n, .int .i64 s, .string t, .bool b] 28)) #[.slice (some ⟨w2.heap.size, 0, none⟩) 1 1] 29
    simpa using this
  have X2 : Blk ((w2.alloc (.cells #[.int .i64 0, .int .i64 2, .int .i64 n, .int .i64 s, .string t, .bool b] 28)).alloc (.cells #[.slice (some ⟨w2.heap.size, 0, none⟩) 1 1] 29)) w2.heap.size #[.int .i64 0, .int .i64 2, .int .i64 n, .int .i64 s, .string t, .bool b] 28 := X0.alloc _
  have B2 : Blk ((w2.alloc (.cells #[.int .i64 0, .int .i64 2, .int .i64 n, .int .i64 s, .string t, .bool b] 28)).alloc (.cells #[.slice (some ⟨w2.heap.size, 0, none⟩) 1 1] 29)) w.heap.size #[.int .i64 2, .int .i64 n, .int .i64 s, .string t, .bool b] 24 := (B1.alloc _).alloc _
  have hw4 : Below w.heap.size w ((w2.alloc (.cells #[.int .i64 0, .int .i64 2, .int .i64 n, .int .i64 s, .string t, .bool b] 28)).alloc (.cells #[.slice (some ⟨w2.heap.size, 0, none⟩) 1 1] 29)) := (hw2.alloc hw2.size _).alloc (by have := hw2.size; simp; omega) _
  have HY := Lib.hid (And.intro X1 (And.intro X2 (And.intro B2 hw4)))
  have kax : w.heap.size < w2.heap.size := ka
  clear X0 X1 X2 B2 hw4 B1
  go_wp2_with fail
  obtain ⟨X1, X2, B2, hw4⟩ := HY.out
  have kx : w2.heap.size < ((w2.alloc (.cells #[.int .i64 0, .int .i64 2, .int .i64 n, .int .i64 s, .string t, .bool b] 28)).alloc (.cells #[.slice (some ⟨w2.heap.size, 0, none⟩) 1 1] 29)).heap.size := by simp; omega
  generalize (w2.alloc (.cells #[.int .i64 0, .int .i64 2, .int .i64 n, .int .i64 s, .string t, .bool b] 28)).alloc (.cells #[.slice (some ⟨w2.heap.size, 0, none⟩) 1 1] 29) = W4 at *
  clear a0 a1 a2 a3 a4 ka HY hw2
  generalize w2.heap.size = xb at *
  have CX := Lib.hid (Cf.out W4 (xb + 1) hw4 (arg1_of X1 rfl (ItRow.one (x := ⟨2, n, s, t, b⟩) X2) (by omega) (by omega) ht))
  with_reducible refine CX.out.mono ?_
  rintro e w5 ⟨v, rfl, hO, hb⟩
  obtain ⟨fb, fc, rfl, kfb, -⟩ := hO.one
  replace X2 := X2.below hb X2.lt
  replace B2 := B2.below hb B2.lt
  obtain ⟨a', c', he, hIf⟩ := hO.it
  cases he
  have hw5 := hw4.trans (hb.mono hw4.size)
  have kwf : xb < fb := by omega
  clear CX Cf X1 kx hO hb hw4
  have HIf := Lib.hid hIf
  have HX := Lib.hid X2
  have HB := Lib.hid B2
  clear hIf X2 B2 kfb
  go_wp2_with fail
  have Y1 : Blk (w5.alloc (.cells #[.slice (some ⟨xb, 0, none⟩) 1 1] 29)) w5.heap.size #[.slice (some ⟨xb, 0, none⟩) 1 1] 29 := Blk.new _ _ _
  have hbb : Below w5.heap.size w5 (w5.alloc (.cells #[.slice (some ⟨xb, 0, none⟩) 1 1] 29)) := (Below.refl _ _).alloc (Nat.le_refl _) _
  have X2 := HX.out.alloc (.cells #[.slice (some ⟨xb, 0, none⟩) 1 1] 29)
  have CX := Lib.hid (Cc.out _ w5.heap.size (hw5.trans (hbb.mono hw5.size)) (arg1_of Y1 rfl (ItRow.one (x := ⟨2, n, s, t, b⟩) X2) (by omega) (by omega) ht))
  have hsb := hbb.size
  with_reducible refine CX.out.mono ?_
  rintro e w6 ⟨v, rfl, hO, hb⟩
  replace hb := hbb.trans (hb.mono hsb)
  obtain ⟨cb, cc, rfl, kb0, -⟩ := hO.one
  obtain ⟨a', c', he, hIc⟩ := hO.it
  cases he
  have kxs : xb < w5.heap.size := HX.out.lt
  have kwc : xb < cb := by omega
  have HX' := Lib.hid (HX.out.below hb HX.out.lt)
  have HB' := Lib.hid (HB.out.below hb HB.out.lt)
  have HIf' := Lib.hid (HIf.out.on hb)
  have hw6 := hw5.trans (hb.mono hw5.size)
  clear HX HB HIf CX Y1 hbb X2 hsb hO hb kb0 kxs hw5 Cc
  have HX := HX'
  have HB := HB'
  have HIf := HIf'
  have HIc := Lib.hid hIc
  clear hIc HX' HB' HIf'
  go_wp2_with fail
  have Y1 : Blk (w6.alloc (.cells #[.slice (some ⟨xb, 0, none⟩) 1 1] 29)) w6.heap.size #[.slice (some ⟨xb, 0, none⟩) 1 1] 29 := Blk.new _ _ _
  have hbb : Below w6.heap.size w6 (w6.alloc (.cells #[.slice (some ⟨xb, 0, none⟩) 1 1] 29)) := (Below.refl _ _).alloc (Nat.le_refl _) _
  have X2 := HX.out.alloc (.cells #[.slice (some ⟨xb, 0, none⟩) 1 1] 29)
  have CX := Lib.hid (Cr.out _ w6.heap.size (hw6.trans (hbb.mono hw6.size)) (arg1_of Y1 rfl (ItRow.one (x := ⟨2, n, s, t, b⟩) X2) (by omega) (by omega) ht))
  have hsb := hbb.size
  with_reducible refine CX.out.mono ?_
  rintro e w7 ⟨v, rfl, hO, hb⟩
  replace hb := hbb.trans (hb.mono hsb)
  obtain ⟨rb, rc, rfl, kb0, -⟩ := hO.one
  obtain ⟨a', c', he, hIr⟩ := hO.it
  cases he
  have kxs : xb < w6.heap.size := HX.out.lt
  have kwr : xb < rb := by omega
  have HX' := Lib.hid (HX.out.below hb HX.out.lt)
  have HB' := Lib.hid (HB.out.below hb HB.out.lt)
  have HIf' := Lib.hid (HIf.out.on hb)
  have HIc' := Lib.hid (HIc.out.on hb)
  have hw7 := hw6.trans (hb.mono hw6.size)
  clear HX HB HIf HIc CX Y1 hbb X2 hsb hO hb kb0 kxs hw6 Cr
  have HX := HX'
  have HB := HB'
  have HIf := HIf'
  have HIc := HIc'
  have HIr := Lib.hid hIr
  clear hIr HX' HB' HIf' HIc'
  go_wp2_with fail
  have Y1 : Blk (w7.alloc (.cells #[.slice (some ⟨xb, 0, none⟩) 1 1] 29)) w7.heap.size #[.slice (some ⟨xb, 0, none⟩) 1 1] 29 := Blk.new _ _ _
  have hbb : Below w7.heap.size w7 (w7.alloc (.cells #[.slice (some ⟨xb, 0, none⟩) 1 1] 29)) := (Below.refl _ _).alloc (Nat.le_refl _) _
  have X2 := HX.out.alloc (.cells #[.slice (some ⟨xb, 0, none⟩) 1 1] 29)
  have CX := Lib.hid (Ca.out _ w7.heap.size (hw7.trans (hbb.mono hw7.size)) (arg1_of Y1 rfl (ItRow.one (x := ⟨2, n, s, t, b⟩) X2) (by omega) (by omega) ht))
  have hsb := hbb.size
  with_reducible refine CX.out.mono ?_
  rintro e w8 ⟨v, rfl, hO, hb⟩
  replace hb := hbb.trans (hb.mono hsb)
  obtain ⟨pb, pc, rfl, kb0, -⟩ := hO.one
  obtain ⟨a', c', he, hIp⟩ := hO.it
  cases he
  have kxs : xb < w7.heap.size := HX.out.lt
  have kwp : xb < pb := by omega
  have HX' := Lib.hid (HX.out.below hb HX.out.lt)
  have HB' := Lib.hid (HB.out.below hb HB.out.lt)
  have HIf' := Lib.hid (HIf.out.on hb)
  have HIc' := Lib.hid (HIc.out.on hb)
  have HIr' := Lib.hid (HIr.out.on hb)
  have hw8 := hw7.trans (hb.mono hw7.size)
  clear HX HB HIf HIc HIr CX Y1 hbb X2 hsb hO hb kb0 kxs hw7 Ca
  have HX := HX'
  have HB := HB'
  have HIf := HIf'
  have HIc := HIc'
  have HIr := HIr'
  have HIp := Lib.hid hIp
  clear hIp HX' HB' HIf' HIc' HIr'
  obtain ⟨⟨a0, a1, a2, a3, a4⟩, ⟨f0, f1, f2, f3, f4⟩⟩ := HB.out.five
  have ka := HB.out.lt
  have kx := HX.out.lt
  have M1 : Blk (w8.setCell ⟨w.heap.size, 1, none⟩ (.int .i64 (-n))) w.heap.size #[.int .i64 2, .int .i64 (-n), .int .i64 s, .string t, .bool b] 24 := HB.out.set 1 _
  have M2 : Blk (w8.setCell ⟨w.heap.size, 1, none⟩ (.int .i64 (-n))) xb #[.int .i64 0, .int .i64 2, .int .i64 n, .int .i64 s, .string t, .bool b] 28 := HX.out.other (a := ⟨w.heap.size, 1, none⟩) (by show xb ≠ w.heap.size; omega) _
  have Mf := HIf.out.other6 (p := ⟨w.heap.size, 1, none⟩) (by show w.heap.size ≠ fb; omega) (.int .i64 (-n))
  have Mc := HIc.out.other6 (p := ⟨w.heap.size, 1, none⟩) (by show w.heap.size ≠ cb; omega) (.int .i64 (-n))
  have Mr := HIr.out.other6 (p := ⟨w.heap.size, 1, none⟩) (by show w.heap.size ≠ rb; omega) (.int .i64 (-n))
  have Mp := HIp.out.other6 (p := ⟨w.heap.size, 1, none⟩) (by show w.heap.size ≠ pb; omega) (.int .i64 (-n))
  have hm : Below w.heap.size w (w8.setCell ⟨w.heap.size, 1, none⟩ (.int .i64 (-n))) := hw8.setCell (Nat.le_refl _) _
  have HM := Lib.hid (And.intro M1 (And.intro M2 (And.intro Mf (And.intro Mc (And.intro Mr (And.intro Mp hm))))))
  obtain ⟨m0, m1, m2, m3, m4⟩ := M1.five.1
  have HMM := Lib.hid (And.intro m0 (And.intro m1 (And.intro m2 (And.intro m3 m4))))
  clear M1 M2 Mf Mc Mr Mp hm HX HB HIf HIc HIr HIp m0 m1 m2 m3 m4 hw8
  go_wp2_with fail
  obtain ⟨M1, M2, Mf, Mc, Mr, Mp, hm⟩ := HM.out
  have hs8 : (w8.setCell ⟨w.heap.size, 1, none⟩ (.int .i64 (-n))).heap.size = w8.heap.size := by simp
  clear HM HMM a0 a1 a2 a3 a4 f0 f1 f2 f3 f4 ka kx M1
  generalize w8.setCell ⟨w.heap.size, 1, none⟩ (.int .i64 (-n)) = W8 at *
  have Y0 : Blk (W8.alloc (.cells #[.int .i64 0, .int .i64 2, .int .i64 (-n), .int .i64 s, .string t, .bool b] 28)) W8.heap.size #[.int .i64 0, .int .i64 2, .int .i64 (-n), .int .i64 s, .string t, .bool b] 28 := Blk.new _ _ _
  have Y1 : Blk ((W8.alloc (.cells #[.int .i64 0, .int .i64 2, .int .i64 (-n), .int .i64 s, .string t, .bool b] 28)).alloc (.cells #[.slice (some ⟨w8.heap.size, 0, none⟩) 1 1] 29)) (W8.heap.size + 1) #[.slice (some ⟨w8.heap.size, 0, none⟩) 1 1] 29 := by
    have := Blk.new (W8.alloc (.cells #[.int .i64 0, .int .i64 2, .int .i64 (-n), .int .i64 s, .string t, .bool b] 28)) #[.slice (some ⟨w8.heap.size, 0, none⟩) 1 1] 29
    simpa using this
  have hbb : Below W8.heap.size W8 ((W8.alloc (.cells #[.int .i64 0, .int .i64 2, .int .i64 (-n), .int .i64 s, .string t, .bool b] 28)).alloc (.cells #[.slice (some ⟨w8.heap.size, 0, none⟩) 1 1] 29)) := ((Below.refl _ _).alloc (Nat.le_refl _) _).alloc (by simp) _
  have Y2 := ItRow.one (x := ⟨2, -n, s, t, b⟩) (Y0.alloc (.cells #[.slice (some ⟨w8.heap.size, 0, none⟩) 1 1] 29))
  have hsb := hbb.size
  rw [hs8] at Y1 Y2
  have CX := Lib.hid (Cb.out _ (w8.heap.size + 1) (hm.trans (hbb.mono hm.size)) (arg1_of Y1 rfl Y2 (by omega) (by omega) ht))
  clear Y0 Y1 Y2
  with_reducible refine CX.out.mono ?_
  rintro e w9 ⟨v, rfl, hO, hb⟩
  replace hb := hbb.trans (hb.mono hsb)
  obtain ⟨qb, qc, rfl, -, -⟩ := hO.one
  obtain ⟨a', c', he, hIq⟩ := hO.it
  cases he
  have HX := Lib.hid (M2.below hb M2.lt)
  have HIf := Lib.hid (Mf.on hb)
  have HIc := Lib.hid (Mc.on hb)
  have HIr := Lib.hid (Mr.on hb)
  have HIp := Lib.hid (Mp.on hb)
  have CS : Hid (Calls Tryz.prog 10 #[.slice (some ⟨pb, 0, none⟩) 1 pc, .slice (some ⟨qb, 0, none⟩) 1 qc] w9 fun e w' => e = .returned (.bool true) ∧ Below w9.heap.size w9 w') := same_eq [⟨2, AA, SS, ⟨#[]⟩, false⟩] _ pc _ qc w9 HIp.out hIq (by show (1 : Nat) ≤ _; omega)
  have hw9 := hm.trans (hb.mono hm.size)
  clear CX hbb hsb hO hIq hb Mf Mc Mr Mp M2 hm Cb hs8
  go_wp2_with fail
  with_reducible refine CS.out.mono ?_
  rintro e W ⟨rfl, hb⟩
  have hW := hw9.trans (hb.mono hw9.size)
  replace HX := Lib.hid (HX.out.below hb HX.out.lt)
  replace HIf := Lib.hid (HIf.out.on hb)
  replace HIc := Lib.hid (HIc.out.on hb)
  replace HIr := Lib.hid (HIr.out.on hb)
  obtain ⟨kp, p0, p1, p2, p3, p4, p5⟩ := (HIp.out.on hb).six
  clear HIp CS hb hw9 p0 p1 p3 p4 p5
  go_wp2_with fail
  clear kp p2
  obtain ⟨kf, f0, f1, f2, f3, f4, f5⟩ := HIf.out.six
  obtain ⟨kc, c0, c1, c2, c3, c4, c5⟩ := HIc.out.six
  dsimp only at f0 f1 f2 f3 f4 f5 c0 c1 c2 c3 c4 c5
  refine RC.region_steps (R := (Below W.heap.size)) 12 [some 129, some 130, some 131, some 132, some 133, some 134, some 135, some 136, some 14, some 15, none, none] (JQ W.heap.size 24 FA FC) (fun a b c h1 h2 => h1.trans h2) (fun w9 => (Below.refl _ _).drew) (fun w9 => ⟨fun q hq => by simp [orig, undef] at hq, fun q hq => by simp [orig, undef] at hq, fun q p hq => by simp [orig, undef] at hq, fun q hq => by simp [orig, undef] at hq, fun q hq => by simp [orig, undef] at hq⟩) (by kernel_rfl) (by kernel_rfl) ?_
  -- 0: Op.move (Operand.tmp 4)
  refine RC.ls_gen (.val (.slice (some ⟨fb, 0, none⟩) 1 fc)) ?_ ?_
  · intro x w' hb hj hpre K hK
    clear hpre
    simp only [frL, Act.put, List.setIfInBounds_toArray, List.set_cons_zero, List.set_cons_succ, Nat.zero_add, Nat.reduceAdd] at hK ⊢
    have HK := Lib.hid hK
    clear hK
    refine Held.mk ?_
    go_simp
    exact HK.out _ _ rfl (JQ.val (by omega) _ hj) (Below.refl _ _)
  -- 1: Op.indexAddr 29 (Operand.tmp 129) (Operand.const (Value.int IntKind.i64 0))
  refine RC.ls_gen (.val (.pointer (some ⟨fb, 0, none⟩))) ?_ ?_
  · intro x w' hb hj hpre K hK
    have p0 := hpre.1 rfl
    clear hpre
    simp [RC.phi, RC.MP.val] at p0
    simp only [frL, Act.put, List.setIfInBounds_toArray, List.set_cons_zero, List.set_cons_succ, Nat.zero_add, Nat.reduceAdd, p0] at hK ⊢
    have HK := Lib.hid hK
    clear hK
    refine Held.mk ?_
    go_simp
    exact HK.out _ _ rfl (JQ.val (by omega) _ hj) (Below.refl _ _)
  -- 2: Op.fieldAddr 28 (Operand.tmp 130) 1
  refine RC.ls_gen (.val (.pointer (some ⟨fb, 1, none⟩))) ?_ ?_
  · intro x w' hb hj hpre K hK
    have p0 := hpre.1 rfl
    clear hpre
    simp [RC.phi, RC.MP.val] at p0
    simp only [frL, Act.put, List.setIfInBounds_toArray, List.set_cons_zero, List.set_cons_succ, Nat.zero_add, Nat.reduceAdd, p0] at hK ⊢
    have HK := Lib.hid hK
    clear hK
    refine Held.mk ?_
    go_simp
    exact HK.out _ _ rfl (JQ.val (by omega) _ hj) (Below.refl _ _)
  -- 3: Op.load 24 (Operand.tmp 131)
  refine RC.ls_gen (.val (.agg #[.int .i64 2, .int .i64 FF, .int .i64 0, .string ⟨#[]⟩, .bool false])) ?_ ?_
  · intro x w' hb hj hpre K hK
    have z1 := (hb.cell (p := ⟨fb, 1, none⟩) kf).trans f1
    have z2 := (hb.cell (p := ⟨fb, 2, none⟩) kf).trans f2
    have z3 := (hb.cell (p := ⟨fb, 3, none⟩) kf).trans f3
    have z4 := (hb.cell (p := ⟨fb, 4, none⟩) kf).trans f4
    have z5 := (hb.cell (p := ⟨fb, 5, none⟩) kf).trans f5
    have zs := hb.size
    have p0 := hpre.1 rfl
    clear hpre
    simp [RC.phi, RC.MP.val] at p0
    simp only [frL, Act.put, List.setIfInBounds_toArray, List.set_cons_zero, List.set_cons_succ, Nat.zero_add, Nat.reduceAdd, p0] at hK ⊢
    have HK := Lib.hid hK
    clear hK
    refine Held.mk ?_
    go_simp
    exact HK.out _ _ rfl (JQ.val (by omega) _ hj) (Below.refl _ _)
  -- 4: Op.move (Operand.tmp 6)
  refine RC.ls_gen (.val (.slice (some ⟨cb, 0, none⟩) 1 cc)) ?_ ?_
  · intro x w' hb hj hpre K hK
    clear hpre
    simp only [frL, Act.put, List.setIfInBounds_toArray, List.set_cons_zero, List.set_cons_succ, Nat.zero_add, Nat.reduceAdd] at hK ⊢
    have HK := Lib.hid hK
    clear hK
    refine Held.mk ?_
    go_simp
    exact HK.out _ _ rfl (JQ.val (by omega) _ hj) (Below.refl _ _)
  -- 5: Op.indexAddr 29 (Operand.tmp 133) (Operand.const (Value.int IntKind.i64 0))
  refine RC.ls_gen (.val (.pointer (some ⟨cb, 0, none⟩))) ?_ ?_
  · intro x w' hb hj hpre K hK
    have p0 := hpre.1 rfl
    clear hpre
    simp [RC.phi, RC.MP.val] at p0
    simp only [frL, Act.put, List.setIfInBounds_toArray, List.set_cons_zero, List.set_cons_succ, Nat.zero_add, Nat.reduceAdd, p0] at hK ⊢
    have HK := Lib.hid hK
    clear hK
    refine Held.mk ?_
    go_simp
    exact HK.out _ _ rfl (JQ.val (by omega) _ hj) (Below.refl _ _)
  -- 6: Op.fieldAddr 28 (Operand.tmp 134) 1
  refine RC.ls_gen (.val (.pointer (some ⟨cb, 1, none⟩))) ?_ ?_
  · intro x w' hb hj hpre K hK
    have p0 := hpre.1 rfl
    clear hpre
    simp [RC.phi, RC.MP.val] at p0
    simp only [frL, Act.put, List.setIfInBounds_toArray, List.set_cons_zero, List.set_cons_succ, Nat.zero_add, Nat.reduceAdd, p0] at hK ⊢
    have HK := Lib.hid hK
    clear hK
    refine Held.mk ?_
    go_simp
    exact HK.out _ _ rfl (JQ.val (by omega) _ hj) (Below.refl _ _)
  -- 7: Op.load 24 (Operand.tmp 135)
  refine RC.ls_gen (.val (.agg #[.int .i64 2, .int .i64 CC, .int .i64 0, .string ⟨#[]⟩, .bool false])) ?_ ?_
  · intro x w' hb hj hpre K hK
    have z1 := (hb.cell (p := ⟨cb, 1, none⟩) kc).trans c1
    have z2 := (hb.cell (p := ⟨cb, 2, none⟩) kc).trans c2
    have z3 := (hb.cell (p := ⟨cb, 3, none⟩) kc).trans c3
    have z4 := (hb.cell (p := ⟨cb, 4, none⟩) kc).trans c4
    have z5 := (hb.cell (p := ⟨cb, 5, none⟩) kc).trans c5
    have zs := hb.size
    have p0 := hpre.1 rfl
    clear hpre
    simp [RC.phi, RC.MP.val] at p0
    simp only [frL, Act.put, List.setIfInBounds_toArray, List.set_cons_zero, List.set_cons_succ, Nat.zero_add, Nat.reduceAdd, p0] at hK ⊢
    have HK := Lib.hid hK
    clear hK
    refine Held.mk ?_
    go_simp
    exact HK.out _ _ rfl (JQ.val (by omega) _ hj) (Below.refl _ _)
  -- 8: Op.alloc 24
  refine RC.ls_genO (MPpq _) ?_ ?_
  · intro x w' hb hj hpre ho K hK
    have ho6 : ∀ q, x 10 ≠ .pointer (some ⟨q, 0, none⟩) := fun q hq => by rw [ho 10 (by omega) (by kernel_rfl)] at hq; simp [orig, undef] at hq
    clear ho hpre
    simp only [frL, Act.put, List.setIfInBounds_toArray, List.set_cons_zero, List.set_cons_succ, Nat.zero_add, Nat.reduceAdd] at hK ⊢
    have HK := Lib.hid hK
    clear hK
    refine Held.mk ?_
    go_simp
    exact HK.out _ _ ⟨_, rfl⟩ (JQ.makeA ho6 hb.size _ _ _ _ _ hj) ((Below.refl _ _).alloc hb.size _)
  -- 9: Op.alloc 24
  refine RC.ls_genO (MPpq _) ?_ ?_
  · intro x w' hb hj hpre ho K hK
    have ho6 : ∀ q, x 11 ≠ .pointer (some ⟨q, 0, none⟩) := fun q hq => by rw [ho 11 (by omega) (by kernel_rfl)] at hq; simp [orig, undef] at hq
    clear ho hpre
    simp only [frL, Act.put, List.setIfInBounds_toArray, List.set_cons_zero, List.set_cons_succ, Nat.zero_add, Nat.reduceAdd] at hK ⊢
    have HK := Lib.hid hK
    clear hK
    refine Held.mk ?_
    go_simp
    exact HK.out _ _ ⟨_, rfl⟩ (JQ.makeB ho6 hb.size _ _ _ _ _ hj) ((Below.refl _ _).alloc hb.size _)
  -- 10: Op.store 24 (Operand.tmp 14) (Operand.tmp 132)
  refine RC.ls_gen (MPpq _) ?_ ?_
  · intro x w' hb hj hpre K hK
    have p0 := hpre.1 rfl
    have p1 := hpre.2.1 rfl
    clear hpre
    simp [RC.phi, MPpq] at p0
    simp [RC.phi, RC.MP.val] at p1
    obtain ⟨q9, hq⟩ := p0
    obtain ⟨hBq, y1, y2, y3, y4, y5, hy⟩ := hj.a q9 hq
    obtain ⟨⟨d0, d1', d2', d3', d4'⟩, e0', e1', e2', e3', e4'⟩ := hy.five
    have hp := JQ.putA HFA.out hq hy hj
    simp only [frL, Act.put, List.setIfInBounds_toArray, List.set_cons_zero, List.set_cons_succ, Nat.zero_add, Nat.reduceAdd, hq, p1] at hK ⊢
    have HK := Lib.hid hK
    clear hK
    refine Held.mk ?_
    go_simp
    exact HK.out (.pointer (some ⟨q9, 0, none⟩)) _ ⟨q9, rfl⟩ hp (put5bq _ _ _ _ _ hBq)
  -- 11: Op.store 24 (Operand.tmp 15) (Operand.tmp 136)
  refine RC.ls_gen (MPpq _) ?_ ?_
  · intro x w' hb hj hpre K hK
    have p0 := hpre.1 rfl
    have p1 := hpre.2.1 rfl
    clear hpre
    simp [RC.phi, MPpq] at p0
    simp [RC.phi, RC.MP.val] at p1
    obtain ⟨q9, hq⟩ := p0
    obtain ⟨hBq, y1, y2, y3, y4, y5, hy⟩ := hj.b q9 hq
    obtain ⟨⟨d0, d1', d2', d3', d4'⟩, e0', e1', e2', e3', e4'⟩ := hy.five
    have hp := JQ.putB HFC.out hq hy hj
    simp only [frL, Act.put, List.setIfInBounds_toArray, List.set_cons_zero, List.set_cons_succ, Nat.zero_add, Nat.reduceAdd, hq, p1] at hK ⊢
    have HK := Lib.hid hK
    clear hK
    refine Held.mk ?_
    go_simp
    exact HK.out (.pointer (some ⟨q9, 0, none⟩)) _ ⟨q9, rfl⟩ hp (put5bq _ _ _ _ _ hBq)
  intro x w' hb hp hJ
  simp only [List.cons_append, List.nil_append, RC.phis, RC.MP.val, frL, Act.put, List.setIfInBounds_toArray, List.set_cons_zero, List.set_cons_succ, Nat.zero_add, Nat.reduceAdd] at hp ⊢
  obtain ⟨h0, h1, h2, h3, h4, h5, h6, h7, h8, h9, h10, h11, -⟩ := hp
  obtain ⟨qa, hqa⟩ : ∃ q, x 10 = .pointer (some ⟨q, 0, none⟩) := h10
  obtain ⟨qc, hqc⟩ : ∃ q, x 11 = .pointer (some ⟨q, 0, none⟩) := h11
  obtain ⟨ea, BA⟩ := hJ.f qa hqa
  obtain ⟨ec, BC⟩ := hJ.g qc hqc
  rw [HFA.out] at BA
  rw [HFC.out] at BC
  obtain ⟨W1, hW1⟩ : ∃ W1, W1 = w' := ⟨_, rfl⟩
  subst hW1
  have e0 : x 0 = .slice (some ⟨fb, 0, none⟩) 1 fc := h0
  have e1 : x 1 = .pointer (some ⟨fb, 0, none⟩) := h1
  have e2 : x 2 = .pointer (some ⟨fb, 1, none⟩) := h2
  have e3 : x 3 = .agg #[.int .i64 2, .int .i64 FF, .int .i64 0, .string ⟨#[]⟩, .bool false] := h3
  have e4 : x 4 = .slice (some ⟨cb, 0, none⟩) 1 cc := h4
  have e5 : x 5 = .pointer (some ⟨cb, 0, none⟩) := h5
  have e6 : x 6 = .pointer (some ⟨cb, 1, none⟩) := h6
  have e7 : x 7 = .agg #[.int .i64 2, .int .i64 CC, .int .i64 0, .string ⟨#[]⟩, .bool false] := h7
  simp only [ea, ec, e0, e1, e2, e3, e4, e5, e6, e7]
  have hw1 := hW.trans (hb.mono hW.size)
  replace HX := Lib.hid (HX.out.below hb HX.out.lt)
  replace HIf := Lib.hid (HIf.out.on hb)
  replace HIc := Lib.hid (HIc.out.on hb)
  replace HIr := Lib.hid (HIr.out.on hb)
  clear e0 e1 e2 e3 e4 e5 e6 e7 ea ec hqa hqc h0 h1 h2 h3 h4 h5 h6 h7 h8 h9 hJ hb HFA HFC x hW f0 f1 f2 f3 f4 f5 c0 c1 c2 c3 c4 c5 kf kc
  show wpList Tryz.prog _ _ [] _ _
  obtain ⟨⟨x0, x1, x2, x3, x4⟩, -⟩ := BA.five
  obtain ⟨⟨y0, y1, y2, y3, y4⟩, -⟩ := BC.five
  obtain ⟨kf, f0, f1, f2, f3, f4, f5⟩ := HIf.out.six
  obtain ⟨kc, c0, c1, c2, c3, c4, c5⟩ := HIc.out.six
  obtain ⟨kr, r0, r1, r2, r3, r4, r5⟩ := HIr.out.six
  dsimp only at f0 f1 f2 f3 f4 f5 c0 c1 c2 c3 c4 c5 r0 r1 r2 r3 r4 r5
  have kA := BA.lt
  have kC := BC.lt
  obtain ⟨hF1, hF2⟩ := hF
  obtain ⟨hC1, hC2⟩ := hC
  have d1 : decide (1 < CC - FF) = false := decide_eq_false (by omega)
  have d2 : decide (CC < FF) = false := decide_eq_false (by omega)
  by_cases hrf : RR = FF
  · subst hrf
    clear H3
    go_wp2_with fail
    go_quiet (fail)
    have hq : Below W1.heap.size W1 (W1.drewN nq) := ⟨rfl, rfl, rfl, Nat.le_refl _, fun _ _ => rfl⟩
    replace BA := BA.below hq BA.lt
    replace BC := BC.below hq BC.lt
    replace HX := Lib.hid (HX.out.below hq HX.out.lt)
    have hw2 := hw1.trans (hq.mono hw1.size)
    clear x0 x1 x2 x3 x4 y0 y1 y2 y3 y4 f0 f1 f2 f3 f4 f5 c0 c1 c2 c3 c4 c5 r0 r1 r2 r3 r4 r5 kf kc kr kA kC hq HIf HIc HIr hw1
    generalize W1.drewN nq = W2 at *
    obtain ⟨⟨l0, l1, l2, l3, l4⟩, -⟩ := BA.five
    have kl := BA.lt
    have x1 : W2.cell? ⟨xb, 1, none⟩ = some (.int .i64 2) := HX.out.cell 1
    have x2 : W2.cell? ⟨xb, 2, none⟩ = some (.int .i64 n) := HX.out.cell 2
    have x3 : W2.cell? ⟨xb, 3, none⟩ = some (.int .i64 s) := HX.out.cell 3
    have x4 : W2.cell? ⟨xb, 4, none⟩ = some (.string t) := HX.out.cell 4
    have x5 : W2.cell? ⟨xb, 5, none⟩ = some (.bool b) := HX.out.cell 5
    have kx := HX.out.lt
    have HBC := Lib.hid BC
    clear BA BC
    go_wp2_with fail
    refine RC.region_steps (R := RG) 10 [some 179, some 180, some 181, some 182, some 183, some 184, some 178, some 185, some 186, some 16] (fun _ _ => True) (fun a b c h1 h2 => h1.trans (h2.mono h1.size)) (fun w => ⟨rfl, rfl, rfl, Nat.le_refl _, fun _ _ => rfl⟩) (fun _ => trivial) (by kernel_rfl) (by kernel_rfl) ?_
    -- 0: Op.load 24 (Operand.tmp 14)
    apply RC.ls_val (fun _ _ _ _ _ _ => trivial)
    · intro x w' hb hpre K hK
      have z0 := (hb.cell (p := ⟨qa, 0, none⟩) kl).trans l0
      have z1 := (hb.cell (p := ⟨qa, 1, none⟩) kl).trans l1
      have z2 := (hb.cell (p := ⟨qa, 2, none⟩) kl).trans l2
      have z3 := (hb.cell (p := ⟨qa, 3, none⟩) kl).trans l3
      have z4 := (hb.cell (p := ⟨qa, 4, none⟩) kl).trans l4
      have y1 := (hb.cell (p := ⟨xb, 1, none⟩) kx).trans x1
      have y2 := (hb.cell (p := ⟨xb, 2, none⟩) kx).trans x2
      have y3 := (hb.cell (p := ⟨xb, 3, none⟩) kx).trans x3
      have y4 := (hb.cell (p := ⟨xb, 4, none⟩) kx).trans x4
      have y5 := (hb.cell (p := ⟨xb, 5, none⟩) kx).trans x5
      have zs := hb.size
      clear hpre
      simp only [frL, Act.put, List.setIfInBounds_toArray, List.set_cons_zero, List.set_cons_succ, Nat.zero_add, Nat.reduceAdd] at hK ⊢
      have HK := Lib.hid hK
      clear hK
      refine Held.mk ?_
      go_simp
      exact HK.out _ (Below.refl _ _)
    -- 1: Op.move (Operand.tmp 3)
    apply RC.ls_val (fun _ _ _ _ _ _ => trivial)
    · intro x w' hb hpre K hK
      have z0 := (hb.cell (p := ⟨qa, 0, none⟩) kl).trans l0
      have z1 := (hb.cell (p := ⟨qa, 1, none⟩) kl).trans l1
      have z2 := (hb.cell (p := ⟨qa, 2, none⟩) kl).trans l2
      have z3 := (hb.cell (p := ⟨qa, 3, none⟩) kl).trans l3
      have z4 := (hb.cell (p := ⟨qa, 4, none⟩) kl).trans l4
      have y1 := (hb.cell (p := ⟨xb, 1, none⟩) kx).trans x1
      have y2 := (hb.cell (p := ⟨xb, 2, none⟩) kx).trans x2
      have y3 := (hb.cell (p := ⟨xb, 3, none⟩) kx).trans x3
      have y4 := (hb.cell (p := ⟨xb, 4, none⟩) kx).trans x4
      have y5 := (hb.cell (p := ⟨xb, 5, none⟩) kx).trans x5
      have zs := hb.size
      clear hpre
      simp only [frL, Act.put, List.setIfInBounds_toArray, List.set_cons_zero, List.set_cons_succ, Nat.zero_add, Nat.reduceAdd] at hK ⊢
      have HK := Lib.hid hK
      clear hK
      refine Held.mk ?_
      go_simp
      exact HK.out _ (Below.refl _ _)
    -- 2: Op.indexAddr 29 (Operand.tmp 180) (Operand.const (Value.int IntKind.i64 0))
    apply RC.ls_val (fun _ _ _ _ _ _ => trivial)
    · intro x w' hb hpre K hK
      have z0 := (hb.cell (p := ⟨qa, 0, none⟩) kl).trans l0
      have z1 := (hb.cell (p := ⟨qa, 1, none⟩) kl).trans l1
      have z2 := (hb.cell (p := ⟨qa, 2, none⟩) kl).trans l2
      have z3 := (hb.cell (p := ⟨qa, 3, none⟩) kl).trans l3
      have z4 := (hb.cell (p := ⟨qa, 4, none⟩) kl).trans l4
      have y1 := (hb.cell (p := ⟨xb, 1, none⟩) kx).trans x1
      have y2 := (hb.cell (p := ⟨xb, 2, none⟩) kx).trans x2
      have y3 := (hb.cell (p := ⟨xb, 3, none⟩) kx).trans x3
      have y4 := (hb.cell (p := ⟨xb, 4, none⟩) kx).trans x4
      have y5 := (hb.cell (p := ⟨xb, 5, none⟩) kx).trans x5
      have zs := hb.size
      simp [preds, Region.binds, RC.phi, RC.MP.val] at hpre
      simp only [frL, Act.put, List.setIfInBounds_toArray, List.set_cons_zero, List.set_cons_succ, Nat.zero_add, Nat.reduceAdd, hpre] at hK ⊢
      have HK := Lib.hid hK
      clear hK
      refine Held.mk ?_
      go_simp
      exact HK.out _ (Below.refl _ _)
    -- 3: Op.fieldAddr 28 (Operand.tmp 181) 1
    apply RC.ls_val (fun _ _ _ _ _ _ => trivial)
    · intro x w' hb hpre K hK
      have z0 := (hb.cell (p := ⟨qa, 0, none⟩) kl).trans l0
      have z1 := (hb.cell (p := ⟨qa, 1, none⟩) kl).trans l1
      have z2 := (hb.cell (p := ⟨qa, 2, none⟩) kl).trans l2
      have z3 := (hb.cell (p := ⟨qa, 3, none⟩) kl).trans l3
      have z4 := (hb.cell (p := ⟨qa, 4, none⟩) kl).trans l4
      have y1 := (hb.cell (p := ⟨xb, 1, none⟩) kx).trans x1
      have y2 := (hb.cell (p := ⟨xb, 2, none⟩) kx).trans x2
      have y3 := (hb.cell (p := ⟨xb, 3, none⟩) kx).trans x3
      have y4 := (hb.cell (p := ⟨xb, 4, none⟩) kx).trans x4
      have y5 := (hb.cell (p := ⟨xb, 5, none⟩) kx).trans x5
      have zs := hb.size
      simp [preds, Region.binds, RC.phi, RC.MP.val] at hpre
      simp only [frL, Act.put, List.setIfInBounds_toArray, List.set_cons_zero, List.set_cons_succ, Nat.zero_add, Nat.reduceAdd, hpre] at hK ⊢
      have HK := Lib.hid hK
      clear hK
      refine Held.mk ?_
      go_simp
      exact HK.out _ (Below.refl _ _)
    -- 4: Op.load 24 (Operand.tmp 182)
    apply RC.ls_val (fun _ _ _ _ _ _ => trivial)
    · intro x w' hb hpre K hK
      have z0 := (hb.cell (p := ⟨qa, 0, none⟩) kl).trans l0
      have z1 := (hb.cell (p := ⟨qa, 1, none⟩) kl).trans l1
      have z2 := (hb.cell (p := ⟨qa, 2, none⟩) kl).trans l2
      have z3 := (hb.cell (p := ⟨qa, 3, none⟩) kl).trans l3
      have z4 := (hb.cell (p := ⟨qa, 4, none⟩) kl).trans l4
      have y1 := (hb.cell (p := ⟨xb, 1, none⟩) kx).trans x1
      have y2 := (hb.cell (p := ⟨xb, 2, none⟩) kx).trans x2
      have y3 := (hb.cell (p := ⟨xb, 3, none⟩) kx).trans x3
      have y4 := (hb.cell (p := ⟨xb, 4, none⟩) kx).trans x4
      have y5 := (hb.cell (p := ⟨xb, 5, none⟩) kx).trans x5
      have zs := hb.size
      simp [preds, Region.binds, RC.phi, RC.MP.val] at hpre
      simp only [frL, Act.put, List.setIfInBounds_toArray, List.set_cons_zero, List.set_cons_succ, Nat.zero_add, Nat.reduceAdd, hpre] at hK ⊢
      have HK := Lib.hid hK
      clear hK
      refine Held.mk ?_
      go_simp
      exact HK.out _ (Below.refl _ _)
    -- 5: Op.call { callee := Callee.value (Operand.func 11), args := #[Operand.tmp 179, O
    apply RC.ls_val (fun _ _ _ _ _ _ => trivial)
    · intro x w' hb hpre K hK
      have z0 := (hb.cell (p := ⟨qa, 0, none⟩) kl).trans l0
      have z1 := (hb.cell (p := ⟨qa, 1, none⟩) kl).trans l1
      have z2 := (hb.cell (p := ⟨qa, 2, none⟩) kl).trans l2
      have z3 := (hb.cell (p := ⟨qa, 3, none⟩) kl).trans l3
      have z4 := (hb.cell (p := ⟨qa, 4, none⟩) kl).trans l4
      have y1 := (hb.cell (p := ⟨xb, 1, none⟩) kx).trans x1
      have y2 := (hb.cell (p := ⟨xb, 2, none⟩) kx).trans x2
      have y3 := (hb.cell (p := ⟨xb, 3, none⟩) kx).trans x3
      have y4 := (hb.cell (p := ⟨xb, 4, none⟩) kx).trans x4
      have y5 := (hb.cell (p := ⟨xb, 5, none⟩) kx).trans x5
      have zs := hb.size
      simp [preds, Region.binds, RC.phi, RC.MP.val] at hpre
      simp only [frL, Act.put, List.setIfInBounds_toArray, List.set_cons_zero, List.set_cons_succ, Nat.zero_add, Nat.reduceAdd, hpre] at hK ⊢
      have HK := Lib.hid hK
      clear hK
      refine Held.mk ?_
      go_simp
      with_reducible refine (Ol.out w').mono ?_
      rintro e w9 ⟨rfl, hb1⟩
      dsimp only
      exact HK.out _ hb1
    -- 6: Op.move (Operand.tmp 184)
    apply RC.ls_val (fun _ _ _ _ _ _ => trivial)
    · intro x w' hb hpre K hK
      have z0 := (hb.cell (p := ⟨qa, 0, none⟩) kl).trans l0
      have z1 := (hb.cell (p := ⟨qa, 1, none⟩) kl).trans l1
      have z2 := (hb.cell (p := ⟨qa, 2, none⟩) kl).trans l2
      have z3 := (hb.cell (p := ⟨qa, 3, none⟩) kl).trans l3
      have z4 := (hb.cell (p := ⟨qa, 4, none⟩) kl).trans l4
      have y1 := (hb.cell (p := ⟨xb, 1, none⟩) kx).trans x1
      have y2 := (hb.cell (p := ⟨xb, 2, none⟩) kx).trans x2
      have y3 := (hb.cell (p := ⟨xb, 3, none⟩) kx).trans x3
      have y4 := (hb.cell (p := ⟨xb, 4, none⟩) kx).trans x4
      have y5 := (hb.cell (p := ⟨xb, 5, none⟩) kx).trans x5
      have zs := hb.size
      simp [preds, Region.binds, RC.phi, RC.MP.val] at hpre
      simp only [frL, Act.put, List.setIfInBounds_toArray, List.set_cons_zero, List.set_cons_succ, Nat.zero_add, Nat.reduceAdd, hpre] at hK ⊢
      have HK := Lib.hid hK
      clear hK
      refine Held.mk ?_
      go_simp
      exact HK.out _ (Below.refl _ _)
    -- 7: Op.extract (Operand.tmp 178) 0
    apply RC.ls_val (fun _ _ _ _ _ _ => trivial)
    · intro x w' hb hpre K hK
      have z0 := (hb.cell (p := ⟨qa, 0, none⟩) kl).trans l0
      have z1 := (hb.cell (p := ⟨qa, 1, none⟩) kl).trans l1
      have z2 := (hb.cell (p := ⟨qa, 2, none⟩) kl).trans l2
      have z3 := (hb.cell (p := ⟨qa, 3, none⟩) kl).trans l3
      have z4 := (hb.cell (p := ⟨qa, 4, none⟩) kl).trans l4
      have y1 := (hb.cell (p := ⟨xb, 1, none⟩) kx).trans x1
      have y2 := (hb.cell (p := ⟨xb, 2, none⟩) kx).trans x2
      have y3 := (hb.cell (p := ⟨xb, 3, none⟩) kx).trans x3
      have y4 := (hb.cell (p := ⟨xb, 4, none⟩) kx).trans x4
      have y5 := (hb.cell (p := ⟨xb, 5, none⟩) kx).trans x5
      have zs := hb.size
      simp [preds, Region.binds, RC.phi, RC.MP.val] at hpre
      simp only [frL, Act.put, List.setIfInBounds_toArray, List.set_cons_zero, List.set_cons_succ, Nat.zero_add, Nat.reduceAdd, hpre] at hK ⊢
      have HK := Lib.hid hK
      clear hK
      refine Held.mk ?_
      go_simp
      exact HK.out _ (Below.refl _ _)
    -- 8: Op.extract (Operand.tmp 178) 1
    apply RC.ls_val (fun _ _ _ _ _ _ => trivial)
    · intro x w' hb hpre K hK
      have z0 := (hb.cell (p := ⟨qa, 0, none⟩) kl).trans l0
      have z1 := (hb.cell (p := ⟨qa, 1, none⟩) kl).trans l1
      have z2 := (hb.cell (p := ⟨qa, 2, none⟩) kl).trans l2
      have z3 := (hb.cell (p := ⟨qa, 3, none⟩) kl).trans l3
      have z4 := (hb.cell (p := ⟨qa, 4, none⟩) kl).trans l4
      have y1 := (hb.cell (p := ⟨xb, 1, none⟩) kx).trans x1
      have y2 := (hb.cell (p := ⟨xb, 2, none⟩) kx).trans x2
      have y3 := (hb.cell (p := ⟨xb, 3, none⟩) kx).trans x3
      have y4 := (hb.cell (p := ⟨xb, 4, none⟩) kx).trans x4
      have y5 := (hb.cell (p := ⟨xb, 5, none⟩) kx).trans x5
      have zs := hb.size
      simp [preds, Region.binds, RC.phi, RC.MP.val] at hpre
      simp only [frL, Act.put, List.setIfInBounds_toArray, List.set_cons_zero, List.set_cons_succ, Nat.zero_add, Nat.reduceAdd, hpre] at hK ⊢
      have HK := Lib.hid hK
      clear hK
      refine Held.mk ?_
      go_simp
      exact HK.out _ (Below.refl _ _)
    -- 9: Op.assign (Operand.tmp 185)
    apply RC.ls_val (fun _ _ _ _ _ _ => trivial)
    · intro x w' hb hpre K hK
      have z0 := (hb.cell (p := ⟨qa, 0, none⟩) kl).trans l0
      have z1 := (hb.cell (p := ⟨qa, 1, none⟩) kl).trans l1
      have z2 := (hb.cell (p := ⟨qa, 2, none⟩) kl).trans l2
      have z3 := (hb.cell (p := ⟨qa, 3, none⟩) kl).trans l3
      have z4 := (hb.cell (p := ⟨qa, 4, none⟩) kl).trans l4
      have y1 := (hb.cell (p := ⟨xb, 1, none⟩) kx).trans x1
      have y2 := (hb.cell (p := ⟨xb, 2, none⟩) kx).trans x2
      have y3 := (hb.cell (p := ⟨xb, 3, none⟩) kx).trans x3
      have y4 := (hb.cell (p := ⟨xb, 4, none⟩) kx).trans x4
      have y5 := (hb.cell (p := ⟨xb, 5, none⟩) kx).trans x5
      have zs := hb.size
      simp [preds, Region.binds, RC.phi, RC.MP.val] at hpre
      simp only [frL, Act.put, List.setIfInBounds_toArray, List.set_cons_zero, List.set_cons_succ, Nat.zero_add, Nat.reduceAdd, hpre] at hK ⊢
      have HK := Lib.hid hK
      clear hK
      refine Held.mk ?_
      go_simp
      exact HK.out _ (Below.refl _ _)
    intro x w' hb hp hJ
    simp only [List.cons_append, List.nil_append, RC.phis, RC.MP.val, frL, Act.put, List.setIfInBounds_toArray, List.set_cons_zero, List.set_cons_succ, Nat.zero_add, Nat.reduceAdd] at hp ⊢
    obtain ⟨h0, h1, h2, h3, h4, h5, h6, h7, h8, h9, -⟩ := hp
    simp only [h0, h1, h2, h3, h4, h5, h6, h7, h8, h9]
    clear h0 h1 h2 h3 h4 h5 h6 h7 h8 h9
    have hb5 : Below W2.heap.size W2 w' := hb
    have BC := HBC.out.below hb5 HBC.out.lt
    replace HX := Lib.hid (HX.out.below hb5 HX.out.lt)
    have hw3 := hw2.trans (hb5.mono hw2.size)
    clear l0 l1 l2 l3 l4 kl x1 x2 x3 x4 x5 kx HBC hb5 hb hJ hw2
    obtain ⟨W3, hW3⟩ : ∃ W3, W3 = w' := ⟨_, rfl⟩
    subst hW3
    show wpList Tryz.prog _ _ [_] _ _
    obtain ⟨⟨g0, g1, g2, g3, g4⟩, -⟩ := BC.five
    have kg := BC.lt
    have x1 : W3.cell? ⟨xb, 1, none⟩ = some (.int .i64 2) := HX.out.cell 1
    have x2 : W3.cell? ⟨xb, 2, none⟩ = some (.int .i64 n) := HX.out.cell 2
    have x3 : W3.cell? ⟨xb, 3, none⟩ = some (.int .i64 s) := HX.out.cell 3
    have x4 : W3.cell? ⟨xb, 4, none⟩ = some (.string t) := HX.out.cell 4
    have x5 : W3.cell? ⟨xb, 5, none⟩ = some (.bool b) := HX.out.cell 5
    have kx := HX.out.lt
    clear BC
    go_wp2_with fail
    refine RC.region_steps (R := RG) 10 [some 188, some 189, some 190, some 191, some 192, some 193, some 187, some 194, some 195, some 18] (fun _ _ => True) (fun a b c h1 h2 => h1.trans (h2.mono h1.size)) (fun w => ⟨rfl, rfl, rfl, Nat.le_refl _, fun _ _ => rfl⟩) (fun _ => trivial) (by kernel_rfl) (by kernel_rfl) ?_
    -- 0: Op.load 24 (Operand.tmp 15)
    apply RC.ls_val (fun _ _ _ _ _ _ => trivial)
    · intro x w' hb hpre K hK
      have z0 := (hb.cell (p := ⟨qc, 0, none⟩) kg).trans g0
      have z1 := (hb.cell (p := ⟨qc, 1, none⟩) kg).trans g1
      have z2 := (hb.cell (p := ⟨qc, 2, none⟩) kg).trans g2
      have z3 := (hb.cell (p := ⟨qc, 3, none⟩) kg).trans g3
      have z4 := (hb.cell (p := ⟨qc, 4, none⟩) kg).trans g4
      have y1 := (hb.cell (p := ⟨xb, 1, none⟩) kx).trans x1
      have y2 := (hb.cell (p := ⟨xb, 2, none⟩) kx).trans x2
      have y3 := (hb.cell (p := ⟨xb, 3, none⟩) kx).trans x3
      have y4 := (hb.cell (p := ⟨xb, 4, none⟩) kx).trans x4
      have y5 := (hb.cell (p := ⟨xb, 5, none⟩) kx).trans x5
      have zs := hb.size
      clear hpre
      simp only [frL, Act.put, List.setIfInBounds_toArray, List.set_cons_zero, List.set_cons_succ, Nat.zero_add, Nat.reduceAdd] at hK ⊢
      have HK := Lib.hid hK
      clear hK
      refine Held.mk ?_
      go_simp
      exact HK.out _ (Below.refl _ _)
    -- 1: Op.move (Operand.tmp 3)
    apply RC.ls_val (fun _ _ _ _ _ _ => trivial)
    · intro x w' hb hpre K hK
      have z0 := (hb.cell (p := ⟨qc, 0, none⟩) kg).trans g0
      have z1 := (hb.cell (p := ⟨qc, 1, none⟩) kg).trans g1
      have z2 := (hb.cell (p := ⟨qc, 2, none⟩) kg).trans g2
      have z3 := (hb.cell (p := ⟨qc, 3, none⟩) kg).trans g3
      have z4 := (hb.cell (p := ⟨qc, 4, none⟩) kg).trans g4
      have y1 := (hb.cell (p := ⟨xb, 1, none⟩) kx).trans x1
      have y2 := (hb.cell (p := ⟨xb, 2, none⟩) kx).trans x2
      have y3 := (hb.cell (p := ⟨xb, 3, none⟩) kx).trans x3
      have y4 := (hb.cell (p := ⟨xb, 4, none⟩) kx).trans x4
      have y5 := (hb.cell (p := ⟨xb, 5, none⟩) kx).trans x5
      have zs := hb.size
      clear hpre
      simp only [frL, Act.put, List.setIfInBounds_toArray, List.set_cons_zero, List.set_cons_succ, Nat.zero_add, Nat.reduceAdd] at hK ⊢
      have HK := Lib.hid hK
      clear hK
      refine Held.mk ?_
      go_simp
      exact HK.out _ (Below.refl _ _)
    -- 2: Op.indexAddr 29 (Operand.tmp 189) (Operand.const (Value.int IntKind.i64 0))
    apply RC.ls_val (fun _ _ _ _ _ _ => trivial)
    · intro x w' hb hpre K hK
      have z0 := (hb.cell (p := ⟨qc, 0, none⟩) kg).trans g0
      have z1 := (hb.cell (p := ⟨qc, 1, none⟩) kg).trans g1
      have z2 := (hb.cell (p := ⟨qc, 2, none⟩) kg).trans g2
      have z3 := (hb.cell (p := ⟨qc, 3, none⟩) kg).trans g3
      have z4 := (hb.cell (p := ⟨qc, 4, none⟩) kg).trans g4
      have y1 := (hb.cell (p := ⟨xb, 1, none⟩) kx).trans x1
      have y2 := (hb.cell (p := ⟨xb, 2, none⟩) kx).trans x2
      have y3 := (hb.cell (p := ⟨xb, 3, none⟩) kx).trans x3
      have y4 := (hb.cell (p := ⟨xb, 4, none⟩) kx).trans x4
      have y5 := (hb.cell (p := ⟨xb, 5, none⟩) kx).trans x5
      have zs := hb.size
      simp [preds, Region.binds, RC.phi, RC.MP.val] at hpre
      simp only [frL, Act.put, List.setIfInBounds_toArray, List.set_cons_zero, List.set_cons_succ, Nat.zero_add, Nat.reduceAdd, hpre] at hK ⊢
      have HK := Lib.hid hK
      clear hK
      refine Held.mk ?_
      go_simp
      exact HK.out _ (Below.refl _ _)
    -- 3: Op.fieldAddr 28 (Operand.tmp 190) 1
    apply RC.ls_val (fun _ _ _ _ _ _ => trivial)
    · intro x w' hb hpre K hK
      have z0 := (hb.cell (p := ⟨qc, 0, none⟩) kg).trans g0
      have z1 := (hb.cell (p := ⟨qc, 1, none⟩) kg).trans g1
      have z2 := (hb.cell (p := ⟨qc, 2, none⟩) kg).trans g2
      have z3 := (hb.cell (p := ⟨qc, 3, none⟩) kg).trans g3
      have z4 := (hb.cell (p := ⟨qc, 4, none⟩) kg).trans g4
      have y1 := (hb.cell (p := ⟨xb, 1, none⟩) kx).trans x1
      have y2 := (hb.cell (p := ⟨xb, 2, none⟩) kx).trans x2
      have y3 := (hb.cell (p := ⟨xb, 3, none⟩) kx).trans x3
      have y4 := (hb.cell (p := ⟨xb, 4, none⟩) kx).trans x4
      have y5 := (hb.cell (p := ⟨xb, 5, none⟩) kx).trans x5
      have zs := hb.size
      simp [preds, Region.binds, RC.phi, RC.MP.val] at hpre
      simp only [frL, Act.put, List.setIfInBounds_toArray, List.set_cons_zero, List.set_cons_succ, Nat.zero_add, Nat.reduceAdd, hpre] at hK ⊢
      have HK := Lib.hid hK
      clear hK
      refine Held.mk ?_
      go_simp
      exact HK.out _ (Below.refl _ _)
    -- 4: Op.load 24 (Operand.tmp 191)
    apply RC.ls_val (fun _ _ _ _ _ _ => trivial)
    · intro x w' hb hpre K hK
      have z0 := (hb.cell (p := ⟨qc, 0, none⟩) kg).trans g0
      have z1 := (hb.cell (p := ⟨qc, 1, none⟩) kg).trans g1
      have z2 := (hb.cell (p := ⟨qc, 2, none⟩) kg).trans g2
      have z3 := (hb.cell (p := ⟨qc, 3, none⟩) kg).trans g3
      have z4 := (hb.cell (p := ⟨qc, 4, none⟩) kg).trans g4
      have y1 := (hb.cell (p := ⟨xb, 1, none⟩) kx).trans x1
      have y2 := (hb.cell (p := ⟨xb, 2, none⟩) kx).trans x2
      have y3 := (hb.cell (p := ⟨xb, 3, none⟩) kx).trans x3
      have y4 := (hb.cell (p := ⟨xb, 4, none⟩) kx).trans x4
      have y5 := (hb.cell (p := ⟨xb, 5, none⟩) kx).trans x5
      have zs := hb.size
      simp [preds, Region.binds, RC.phi, RC.MP.val] at hpre
      simp only [frL, Act.put, List.setIfInBounds_toArray, List.set_cons_zero, List.set_cons_succ, Nat.zero_add, Nat.reduceAdd, hpre] at hK ⊢
      have HK := Lib.hid hK
      clear hK
      refine Held.mk ?_
      go_simp
      exact HK.out _ (Below.refl _ _)
    -- 5: Op.call { callee := Callee.value (Operand.func 11), args := #[Operand.tmp 188, O
    apply RC.ls_val (fun _ _ _ _ _ _ => trivial)
    · intro x w' hb hpre K hK
      have z0 := (hb.cell (p := ⟨qc, 0, none⟩) kg).trans g0
      have z1 := (hb.cell (p := ⟨qc, 1, none⟩) kg).trans g1
      have z2 := (hb.cell (p := ⟨qc, 2, none⟩) kg).trans g2
      have z3 := (hb.cell (p := ⟨qc, 3, none⟩) kg).trans g3
      have z4 := (hb.cell (p := ⟨qc, 4, none⟩) kg).trans g4
      have y1 := (hb.cell (p := ⟨xb, 1, none⟩) kx).trans x1
      have y2 := (hb.cell (p := ⟨xb, 2, none⟩) kx).trans x2
      have y3 := (hb.cell (p := ⟨xb, 3, none⟩) kx).trans x3
      have y4 := (hb.cell (p := ⟨xb, 4, none⟩) kx).trans x4
      have y5 := (hb.cell (p := ⟨xb, 5, none⟩) kx).trans x5
      have zs := hb.size
      simp [preds, Region.binds, RC.phi, RC.MP.val] at hpre
      simp only [frL, Act.put, List.setIfInBounds_toArray, List.set_cons_zero, List.set_cons_succ, Nat.zero_add, Nat.reduceAdd, hpre] at hK ⊢
      have HK := Lib.hid hK
      clear hK
      refine Held.mk ?_
      go_simp
      with_reducible refine (Oh.out w').mono ?_
      rintro e w9 ⟨rfl, hb1⟩
      dsimp only
      exact HK.out _ hb1
    -- 6: Op.move (Operand.tmp 193)
    apply RC.ls_val (fun _ _ _ _ _ _ => trivial)
    · intro x w' hb hpre K hK
      have z0 := (hb.cell (p := ⟨qc, 0, none⟩) kg).trans g0
      have z1 := (hb.cell (p := ⟨qc, 1, none⟩) kg).trans g1
      have z2 := (hb.cell (p := ⟨qc, 2, none⟩) kg).trans g2
      have z3 := (hb.cell (p := ⟨qc, 3, none⟩) kg).trans g3
      have z4 := (hb.cell (p := ⟨qc, 4, none⟩) kg).trans g4
      have y1 := (hb.cell (p := ⟨xb, 1, none⟩) kx).trans x1
      have y2 := (hb.cell (p := ⟨xb, 2, none⟩) kx).trans x2
      have y3 := (hb.cell (p := ⟨xb, 3, none⟩) kx).trans x3
      have y4 := (hb.cell (p := ⟨xb, 4, none⟩) kx).trans x4
      have y5 := (hb.cell (p := ⟨xb, 5, none⟩) kx).trans x5
      have zs := hb.size
      simp [preds, Region.binds, RC.phi, RC.MP.val] at hpre
      simp only [frL, Act.put, List.setIfInBounds_toArray, List.set_cons_zero, List.set_cons_succ, Nat.zero_add, Nat.reduceAdd, hpre] at hK ⊢
      have HK := Lib.hid hK
      clear hK
      refine Held.mk ?_
      go_simp
      exact HK.out _ (Below.refl _ _)
    -- 7: Op.extract (Operand.tmp 187) 0
    apply RC.ls_val (fun _ _ _ _ _ _ => trivial)
    · intro x w' hb hpre K hK
      have z0 := (hb.cell (p := ⟨qc, 0, none⟩) kg).trans g0
      have z1 := (hb.cell (p := ⟨qc, 1, none⟩) kg).trans g1
      have z2 := (hb.cell (p := ⟨qc, 2, none⟩) kg).trans g2
      have z3 := (hb.cell (p := ⟨qc, 3, none⟩) kg).trans g3
      have z4 := (hb.cell (p := ⟨qc, 4, none⟩) kg).trans g4
      have y1 := (hb.cell (p := ⟨xb, 1, none⟩) kx).trans x1
      have y2 := (hb.cell (p := ⟨xb, 2, none⟩) kx).trans x2
      have y3 := (hb.cell (p := ⟨xb, 3, none⟩) kx).trans x3
      have y4 := (hb.cell (p := ⟨xb, 4, none⟩) kx).trans x4
      have y5 := (hb.cell (p := ⟨xb, 5, none⟩) kx).trans x5
      have zs := hb.size
      simp [preds, Region.binds, RC.phi, RC.MP.val] at hpre
      simp only [frL, Act.put, List.setIfInBounds_toArray, List.set_cons_zero, List.set_cons_succ, Nat.zero_add, Nat.reduceAdd, hpre] at hK ⊢
      have HK := Lib.hid hK
      clear hK
      refine Held.mk ?_
      go_simp
      exact HK.out _ (Below.refl _ _)
    -- 8: Op.extract (Operand.tmp 187) 1
    apply RC.ls_val (fun _ _ _ _ _ _ => trivial)
    · intro x w' hb hpre K hK
      have z0 := (hb.cell (p := ⟨qc, 0, none⟩) kg).trans g0
      have z1 := (hb.cell (p := ⟨qc, 1, none⟩) kg).trans g1
      have z2 := (hb.cell (p := ⟨qc, 2, none⟩) kg).trans g2
      have z3 := (hb.cell (p := ⟨qc, 3, none⟩) kg).trans g3
      have z4 := (hb.cell (p := ⟨qc, 4, none⟩) kg).trans g4
      have y1 := (hb.cell (p := ⟨xb, 1, none⟩) kx).trans x1
      have y2 := (hb.cell (p := ⟨xb, 2, none⟩) kx).trans x2
      have y3 := (hb.cell (p := ⟨xb, 3, none⟩) kx).trans x3
      have y4 := (hb.cell (p := ⟨xb, 4, none⟩) kx).trans x4
      have y5 := (hb.cell (p := ⟨xb, 5, none⟩) kx).trans x5
      have zs := hb.size
      simp [preds, Region.binds, RC.phi, RC.MP.val] at hpre
      simp only [frL, Act.put, List.setIfInBounds_toArray, List.set_cons_zero, List.set_cons_succ, Nat.zero_add, Nat.reduceAdd, hpre] at hK ⊢
      have HK := Lib.hid hK
      clear hK
      refine Held.mk ?_
      go_simp
      exact HK.out _ (Below.refl _ _)
    -- 9: Op.assign (Operand.tmp 194)
    apply RC.ls_val (fun _ _ _ _ _ _ => trivial)
    · intro x w' hb hpre K hK
      have z0 := (hb.cell (p := ⟨qc, 0, none⟩) kg).trans g0
      have z1 := (hb.cell (p := ⟨qc, 1, none⟩) kg).trans g1
      have z2 := (hb.cell (p := ⟨qc, 2, none⟩) kg).trans g2
      have z3 := (hb.cell (p := ⟨qc, 3, none⟩) kg).trans g3
      have z4 := (hb.cell (p := ⟨qc, 4, none⟩) kg).trans g4
      have y1 := (hb.cell (p := ⟨xb, 1, none⟩) kx).trans x1
      have y2 := (hb.cell (p := ⟨xb, 2, none⟩) kx).trans x2
      have y3 := (hb.cell (p := ⟨xb, 3, none⟩) kx).trans x3
      have y4 := (hb.cell (p := ⟨xb, 4, none⟩) kx).trans x4
      have y5 := (hb.cell (p := ⟨xb, 5, none⟩) kx).trans x5
      have zs := hb.size
      simp [preds, Region.binds, RC.phi, RC.MP.val] at hpre
      simp only [frL, Act.put, List.setIfInBounds_toArray, List.set_cons_zero, List.set_cons_succ, Nat.zero_add, Nat.reduceAdd, hpre] at hK ⊢
      have HK := Lib.hid hK
      clear hK
      refine Held.mk ?_
      go_simp
      exact HK.out _ (Below.refl _ _)
    intro x w' hb hp hJ
    simp only [List.cons_append, List.nil_append, RC.phis, RC.MP.val, frL, Act.put, List.setIfInBounds_toArray, List.set_cons_zero, List.set_cons_succ, Nat.zero_add, Nat.reduceAdd] at hp ⊢
    obtain ⟨h0, h1, h2, h3, h4, h5, h6, h7, h8, h9, -⟩ := hp
    simp only [h0, h1, h2, h3, h4, h5, h6, h7, h8, h9]
    clear h0 h1 h2 h3 h4 h5 h6 h7 h8 h9
    have hw4 := hw3.trans (Below.mono (show Below W3.heap.size W3 w' from hb) hw3.size)
    clear g0 g1 g2 g3 g4 kg x1 x2 x3 x4 x5 kx hb hJ hw3 HX
    show wpList Tryz.prog _ _ [_] _ _
    have dl : decide (ol ≤ 0) = true := decide_eq_true ho
    have dh : decide (0 ≤ oh) = true := decide_eq_true ho2
    go_wp2_with fail
    go_returns
    exact ⟨rfl, hw4⟩
  · have h3 : RR = CC := by
      rcases H3.out with h | h
      · exact absurd h hrf
      · exact h
    subst h3
    clear H3
    go_wp2_with fail
    go_quiet (fail)
    have hq : Below W1.heap.size W1 (W1.drewN nq) := ⟨rfl, rfl, rfl, Nat.le_refl _, fun _ _ => rfl⟩
    replace BA := BA.below hq BA.lt
    replace BC := BC.below hq BC.lt
    replace HX := Lib.hid (HX.out.below hq HX.out.lt)
    have hw2 := hw1.trans (hq.mono hw1.size)
    clear x0 x1 x2 x3 x4 y0 y1 y2 y3 y4 f0 f1 f2 f3 f4 f5 c0 c1 c2 c3 c4 c5 r0 r1 r2 r3 r4 r5 kf kc kr kA kC hq HIf HIc HIr hw1
    generalize W1.drewN nq = W2 at *
    obtain ⟨⟨l0, l1, l2, l3, l4⟩, -⟩ := BA.five
    have kl := BA.lt
    have x1 : W2.cell? ⟨xb, 1, none⟩ = some (.int .i64 2) := HX.out.cell 1
    have x2 : W2.cell? ⟨xb, 2, none⟩ = some (.int .i64 n) := HX.out.cell 2
    have x3 : W2.cell? ⟨xb, 3, none⟩ = some (.int .i64 s) := HX.out.cell 3
    have x4 : W2.cell? ⟨xb, 4, none⟩ = some (.string t) := HX.out.cell 4
    have x5 : W2.cell? ⟨xb, 5, none⟩ = some (.bool b) := HX.out.cell 5
    have kx := HX.out.lt
    have HBC := Lib.hid BC
    clear BA BC
    go_wp2_with fail
    refine RC.region_steps (R := RG) 10 [some 179, some 180, some 181, some 182, some 183, some 184, some 178, some 185, some 186, some 16] (fun _ _ => True) (fun a b c h1 h2 => h1.trans (h2.mono h1.size)) (fun w => ⟨rfl, rfl, rfl, Nat.le_refl _, fun _ _ => rfl⟩) (fun _ => trivial) (by kernel_rfl) (by kernel_rfl) ?_
    -- 0: Op.load 24 (Operand.tmp 14)
    apply RC.ls_val (fun _ _ _ _ _ _ => trivial)
    · intro x w' hb hpre K hK
      have z0 := (hb.cell (p := ⟨qa, 0, none⟩) kl).trans l0
      have z1 := (hb.cell (p := ⟨qa, 1, none⟩) kl).trans l1
      have z2 := (hb.cell (p := ⟨qa, 2, none⟩) kl).trans l2
      have z3 := (hb.cell (p := ⟨qa, 3, none⟩) kl).trans l3
      have z4 := (hb.cell (p := ⟨qa, 4, none⟩) kl).trans l4
      have y1 := (hb.cell (p := ⟨xb, 1, none⟩) kx).trans x1
      have y2 := (hb.cell (p := ⟨xb, 2, none⟩) kx).trans x2
      have y3 := (hb.cell (p := ⟨xb, 3, none⟩) kx).trans x3
      have y4 := (hb.cell (p := ⟨xb, 4, none⟩) kx).trans x4
      have y5 := (hb.cell (p := ⟨xb, 5, none⟩) kx).trans x5
      have zs := hb.size
      clear hpre
      simp only [frL, Act.put, List.setIfInBounds_toArray, List.set_cons_zero, List.set_cons_succ, Nat.zero_add, Nat.reduceAdd] at hK ⊢
      have HK := Lib.hid hK
      clear hK
      refine Held.mk ?_
      go_simp
      exact HK.out _ (Below.refl _ _)
    -- 1: Op.move (Operand.tmp 3)
    apply RC.ls_val (fun _ _ _ _ _ _ => trivial)
    · intro x w' hb hpre K hK
      have z0 := (hb.cell (p := ⟨qa, 0, none⟩) kl).trans l0
      have z1 := (hb.cell (p := ⟨qa, 1, none⟩) kl).trans l1
      have z2 := (hb.cell (p := ⟨qa, 2, none⟩) kl).trans l2
      have z3 := (hb.cell (p := ⟨qa, 3, none⟩) kl).trans l3
      have z4 := (hb.cell (p := ⟨qa, 4, none⟩) kl).trans l4
      have y1 := (hb.cell (p := ⟨xb, 1, none⟩) kx).trans x1
      have y2 := (hb.cell (p := ⟨xb, 2, none⟩) kx).trans x2
      have y3 := (hb.cell (p := ⟨xb, 3, none⟩) kx).trans x3
      have y4 := (hb.cell (p := ⟨xb, 4, none⟩) kx).trans x4
      have y5 := (hb.cell (p := ⟨xb, 5, none⟩) kx).trans x5
      have zs := hb.size
      clear hpre
      simp only [frL, Act.put, List.setIfInBounds_toArray, List.set_cons_zero, List.set_cons_succ, Nat.zero_add, Nat.reduceAdd] at hK ⊢
      have HK := Lib.hid hK
      clear hK
      refine Held.mk ?_
      go_simp
      exact HK.out _ (Below.refl _ _)
    -- 2: Op.indexAddr 29 (Operand.tmp 180) (Operand.const (Value.int IntKind.i64 0))
    apply RC.ls_val (fun _ _ _ _ _ _ => trivial)
    · intro x w' hb hpre K hK
      have z0 := (hb.cell (p := ⟨qa, 0, none⟩) kl).trans l0
      have z1 := (hb.cell (p := ⟨qa, 1, none⟩) kl).trans l1
      have z2 := (hb.cell (p := ⟨qa, 2, none⟩) kl).trans l2
      have z3 := (hb.cell (p := ⟨qa, 3, none⟩) kl).trans l3
      have z4 := (hb.cell (p := ⟨qa, 4, none⟩) kl).trans l4
      have y1 := (hb.cell (p := ⟨xb, 1, none⟩) kx).trans x1
      have y2 := (hb.cell (p := ⟨xb, 2, none⟩) kx).trans x2
      have y3 := (hb.cell (p := ⟨xb, 3, none⟩) kx).trans x3
      have y4 := (hb.cell (p := ⟨xb, 4, none⟩) kx).trans x4
      have y5 := (hb.cell (p := ⟨xb, 5, none⟩) kx).trans x5
      have zs := hb.size
      simp [preds, Region.binds, RC.phi, RC.MP.val] at hpre
      simp only [frL, Act.put, List.setIfInBounds_toArray, List.set_cons_zero, List.set_cons_succ, Nat.zero_add, Nat.reduceAdd, hpre] at hK ⊢
      have HK := Lib.hid hK
      clear hK
      refine Held.mk ?_
      go_simp
      exact HK.out _ (Below.refl _ _)
    -- 3: Op.fieldAddr 28 (Operand.tmp 181) 1
    apply RC.ls_val (fun _ _ _ _ _ _ => trivial)
    · intro x w' hb hpre K hK
      have z0 := (hb.cell (p := ⟨qa, 0, none⟩) kl).trans l0
      have z1 := (hb.cell (p := ⟨qa, 1, none⟩) kl).trans l1
      have z2 := (hb.cell (p := ⟨qa, 2, none⟩) kl).trans l2
      have z3 := (hb.cell (p := ⟨qa, 3, none⟩) kl).trans l3
      have z4 := (hb.cell (p := ⟨qa, 4, none⟩) kl).trans l4
      have y1 := (hb.cell (p := ⟨xb, 1, none⟩) kx).trans x1
      have y2 := (hb.cell (p := ⟨xb, 2, none⟩) kx).trans x2
      have y3 := (hb.cell (p := ⟨xb, 3, none⟩) kx).trans x3
      have y4 := (hb.cell (p := ⟨xb, 4, none⟩) kx).trans x4
      have y5 := (hb.cell (p := ⟨xb, 5, none⟩) kx).trans x5
      have zs := hb.size
      simp [preds, Region.binds, RC.phi, RC.MP.val] at hpre
      simp only [frL, Act.put, List.setIfInBounds_toArray, List.set_cons_zero, List.set_cons_succ, Nat.zero_add, Nat.reduceAdd, hpre] at hK ⊢
      have HK := Lib.hid hK
      clear hK
      refine Held.mk ?_
      go_simp
      exact HK.out _ (Below.refl _ _)
    -- 4: Op.load 24 (Operand.tmp 182)
    apply RC.ls_val (fun _ _ _ _ _ _ => trivial)
    · intro x w' hb hpre K hK
      have z0 := (hb.cell (p := ⟨qa, 0, none⟩) kl).trans l0
      have z1 := (hb.cell (p := ⟨qa, 1, none⟩) kl).trans l1
      have z2 := (hb.cell (p := ⟨qa, 2, none⟩) kl).trans l2
      have z3 := (hb.cell (p := ⟨qa, 3, none⟩) kl).trans l3
      have z4 := (hb.cell (p := ⟨qa, 4, none⟩) kl).trans l4
      have y1 := (hb.cell (p := ⟨xb, 1, none⟩) kx).trans x1
      have y2 := (hb.cell (p := ⟨xb, 2, none⟩) kx).trans x2
      have y3 := (hb.cell (p := ⟨xb, 3, none⟩) kx).trans x3
      have y4 := (hb.cell (p := ⟨xb, 4, none⟩) kx).trans x4
      have y5 := (hb.cell (p := ⟨xb, 5, none⟩) kx).trans x5
      have zs := hb.size
      simp [preds, Region.binds, RC.phi, RC.MP.val] at hpre
      simp only [frL, Act.put, List.setIfInBounds_toArray, List.set_cons_zero, List.set_cons_succ, Nat.zero_add, Nat.reduceAdd, hpre] at hK ⊢
      have HK := Lib.hid hK
      clear hK
      refine Held.mk ?_
      go_simp
      exact HK.out _ (Below.refl _ _)
    -- 5: Op.call { callee := Callee.value (Operand.func 11), args := #[Operand.tmp 179, O
    apply RC.ls_val (fun _ _ _ _ _ _ => trivial)
    · intro x w' hb hpre K hK
      have z0 := (hb.cell (p := ⟨qa, 0, none⟩) kl).trans l0
      have z1 := (hb.cell (p := ⟨qa, 1, none⟩) kl).trans l1
      have z2 := (hb.cell (p := ⟨qa, 2, none⟩) kl).trans l2
      have z3 := (hb.cell (p := ⟨qa, 3, none⟩) kl).trans l3
      have z4 := (hb.cell (p := ⟨qa, 4, none⟩) kl).trans l4
      have y1 := (hb.cell (p := ⟨xb, 1, none⟩) kx).trans x1
      have y2 := (hb.cell (p := ⟨xb, 2, none⟩) kx).trans x2
      have y3 := (hb.cell (p := ⟨xb, 3, none⟩) kx).trans x3
      have y4 := (hb.cell (p := ⟨xb, 4, none⟩) kx).trans x4
      have y5 := (hb.cell (p := ⟨xb, 5, none⟩) kx).trans x5
      have zs := hb.size
      simp [preds, Region.binds, RC.phi, RC.MP.val] at hpre
      simp only [frL, Act.put, List.setIfInBounds_toArray, List.set_cons_zero, List.set_cons_succ, Nat.zero_add, Nat.reduceAdd, hpre] at hK ⊢
      have HK := Lib.hid hK
      clear hK
      refine Held.mk ?_
      go_simp
      with_reducible refine (Ol.out w').mono ?_
      rintro e w9 ⟨rfl, hb1⟩
      dsimp only
      exact HK.out _ hb1
    -- 6: Op.move (Operand.tmp 184)
    apply RC.ls_val (fun _ _ _ _ _ _ => trivial)
    · intro x w' hb hpre K hK
      have z0 := (hb.cell (p := ⟨qa, 0, none⟩) kl).trans l0
      have z1 := (hb.cell (p := ⟨qa, 1, none⟩) kl).trans l1
      have z2 := (hb.cell (p := ⟨qa, 2, none⟩) kl).trans l2
      have z3 := (hb.cell (p := ⟨qa, 3, none⟩) kl).trans l3
      have z4 := (hb.cell (p := ⟨qa, 4, none⟩) kl).trans l4
      have y1 := (hb.cell (p := ⟨xb, 1, none⟩) kx).trans x1
      have y2 := (hb.cell (p := ⟨xb, 2, none⟩) kx).trans x2
      have y3 := (hb.cell (p := ⟨xb, 3, none⟩) kx).trans x3
      have y4 := (hb.cell (p := ⟨xb, 4, none⟩) kx).trans x4
      have y5 := (hb.cell (p := ⟨xb, 5, none⟩) kx).trans x5
      have zs := hb.size
      simp [preds, Region.binds, RC.phi, RC.MP.val] at hpre
      simp only [frL, Act.put, List.setIfInBounds_toArray, List.set_cons_zero, List.set_cons_succ, Nat.zero_add, Nat.reduceAdd, hpre] at hK ⊢
      have HK := Lib.hid hK
      clear hK
      refine Held.mk ?_
      go_simp
      exact HK.out _ (Below.refl _ _)
    -- 7: Op.extract (Operand.tmp 178) 0
    apply RC.ls_val (fun _ _ _ _ _ _ => trivial)
    · intro x w' hb hpre K hK
      have z0 := (hb.cell (p := ⟨qa, 0, none⟩) kl).trans l0
      have z1 := (hb.cell (p := ⟨qa, 1, none⟩) kl).trans l1
      have z2 := (hb.cell (p := ⟨qa, 2, none⟩) kl).trans l2
      have z3 := (hb.cell (p := ⟨qa, 3, none⟩) kl).trans l3
      have z4 := (hb.cell (p := ⟨qa, 4, none⟩) kl).trans l4
      have y1 := (hb.cell (p := ⟨xb, 1, none⟩) kx).trans x1
      have y2 := (hb.cell (p := ⟨xb, 2, none⟩) kx).trans x2
      have y3 := (hb.cell (p := ⟨xb, 3, none⟩) kx).trans x3
      have y4 := (hb.cell (p := ⟨xb, 4, none⟩) kx).trans x4
      have y5 := (hb.cell (p := ⟨xb, 5, none⟩) kx).trans x5
      have zs := hb.size
      simp [preds, Region.binds, RC.phi, RC.MP.val] at hpre
      simp only [frL, Act.put, List.setIfInBounds_toArray, List.set_cons_zero, List.set_cons_succ, Nat.zero_add, Nat.reduceAdd, hpre] at hK ⊢
      have HK := Lib.hid hK
      clear hK
      refine Held.mk ?_
      go_simp
      exact HK.out _ (Below.refl _ _)
    -- 8: Op.extract (Operand.tmp 178) 1
    apply RC.ls_val (fun _ _ _ _ _ _ => trivial)
    · intro x w' hb hpre K hK
      have z0 := (hb.cell (p := ⟨qa, 0, none⟩) kl).trans l0
      have z1 := (hb.cell (p := ⟨qa, 1, none⟩) kl).trans l1
      have z2 := (hb.cell (p := ⟨qa, 2, none⟩) kl).trans l2
      have z3 := (hb.cell (p := ⟨qa, 3, none⟩) kl).trans l3
      have z4 := (hb.cell (p := ⟨qa, 4, none⟩) kl).trans l4
      have y1 := (hb.cell (p := ⟨xb, 1, none⟩) kx).trans x1
      have y2 := (hb.cell (p := ⟨xb, 2, none⟩) kx).trans x2
      have y3 := (hb.cell (p := ⟨xb, 3, none⟩) kx).trans x3
      have y4 := (hb.cell (p := ⟨xb, 4, none⟩) kx).trans x4
      have y5 := (hb.cell (p := ⟨xb, 5, none⟩) kx).trans x5
      have zs := hb.size
      simp [preds, Region.binds, RC.phi, RC.MP.val] at hpre
      simp only [frL, Act.put, List.setIfInBounds_toArray, List.set_cons_zero, List.set_cons_succ, Nat.zero_add, Nat.reduceAdd, hpre] at hK ⊢
      have HK := Lib.hid hK
      clear hK
      refine Held.mk ?_
      go_simp
      exact HK.out _ (Below.refl _ _)
    -- 9: Op.assign (Operand.tmp 185)
    apply RC.ls_val (fun _ _ _ _ _ _ => trivial)
    · intro x w' hb hpre K hK
      have z0 := (hb.cell (p := ⟨qa, 0, none⟩) kl).trans l0
      have z1 := (hb.cell (p := ⟨qa, 1, none⟩) kl).trans l1
      have z2 := (hb.cell (p := ⟨qa, 2, none⟩) kl).trans l2
      have z3 := (hb.cell (p := ⟨qa, 3, none⟩) kl).trans l3
      have z4 := (hb.cell (p := ⟨qa, 4, none⟩) kl).trans l4
      have y1 := (hb.cell (p := ⟨xb, 1, none⟩) kx).trans x1
      have y2 := (hb.cell (p := ⟨xb, 2, none⟩) kx).trans x2
      have y3 := (hb.cell (p := ⟨xb, 3, none⟩) kx).trans x3
      have y4 := (hb.cell (p := ⟨xb, 4, none⟩) kx).trans x4
      have y5 := (hb.cell (p := ⟨xb, 5, none⟩) kx).trans x5
      have zs := hb.size
      simp [preds, Region.binds, RC.phi, RC.MP.val] at hpre
      simp only [frL, Act.put, List.setIfInBounds_toArray, List.set_cons_zero, List.set_cons_succ, Nat.zero_add, Nat.reduceAdd, hpre] at hK ⊢
      have HK := Lib.hid hK
      clear hK
      refine Held.mk ?_
      go_simp
      exact HK.out _ (Below.refl _ _)
    intro x w' hb hp hJ
    simp only [List.cons_append, List.nil_append, RC.phis, RC.MP.val, frL, Act.put, List.setIfInBounds_toArray, List.set_cons_zero, List.set_cons_succ, Nat.zero_add, Nat.reduceAdd] at hp ⊢
    obtain ⟨h0, h1, h2, h3, h4, h5, h6, h7, h8, h9, -⟩ := hp
    simp only [h0, h1, h2, h3, h4, h5, h6, h7, h8, h9]
    clear h0 h1 h2 h3 h4 h5 h6 h7 h8 h9
    have hb5 : Below W2.heap.size W2 w' := hb
    have BC := HBC.out.below hb5 HBC.out.lt
    replace HX := Lib.hid (HX.out.below hb5 HX.out.lt)
    have hw3 := hw2.trans (hb5.mono hw2.size)
    clear l0 l1 l2 l3 l4 kl x1 x2 x3 x4 x5 kx HBC hb5 hb hJ hw2
    obtain ⟨W3, hW3⟩ : ∃ W3, W3 = w' := ⟨_, rfl⟩
    subst hW3
    show wpList Tryz.prog _ _ [_] _ _
    obtain ⟨⟨g0, g1, g2, g3, g4⟩, -⟩ := BC.five
    have kg := BC.lt
    have x1 : W3.cell? ⟨xb, 1, none⟩ = some (.int .i64 2) := HX.out.cell 1
    have x2 : W3.cell? ⟨xb, 2, none⟩ = some (.int .i64 n) := HX.out.cell 2
    have x3 : W3.cell? ⟨xb, 3, none⟩ = some (.int .i64 s) := HX.out.cell 3
    have x4 : W3.cell? ⟨xb, 4, none⟩ = some (.string t) := HX.out.cell 4
    have x5 : W3.cell? ⟨xb, 5, none⟩ = some (.bool b) := HX.out.cell 5
    have kx := HX.out.lt
    clear BC
    go_wp2_with fail
    refine RC.region_steps (R := RG) 10 [some 188, some 189, some 190, some 191, some 192, some 193, some 187, some 194, some 195, some 18] (fun _ _ => True) (fun a b c h1 h2 => h1.trans (h2.mono h1.size)) (fun w => ⟨rfl, rfl, rfl, Nat.le_refl _, fun _ _ => rfl⟩) (fun _ => trivial) (by kernel_rfl) (by kernel_rfl) ?_
    -- 0: Op.load 24 (Operand.tmp 15)
    apply RC.ls_val (fun _ _ _ _ _ _ => trivial)
    · intro x w' hb hpre K hK
      have z0 := (hb.cell (p := ⟨qc, 0, none⟩) kg).trans g0
      have z1 := (hb.cell (p := ⟨qc, 1, none⟩) kg).trans g1
      have z2 := (hb.cell (p := ⟨qc, 2, none⟩) kg).trans g2
      have z3 := (hb.cell (p := ⟨qc, 3, none⟩) kg).trans g3
      have z4 := (hb.cell (p := ⟨qc, 4, none⟩) kg).trans g4
      have y1 := (hb.cell (p := ⟨xb, 1, none⟩) kx).trans x1
      have y2 := (hb.cell (p := ⟨xb, 2, none⟩) kx).trans x2
      have y3 := (hb.cell (p := ⟨xb, 3, none⟩) kx).trans x3
      have y4 := (hb.cell (p := ⟨xb, 4, none⟩) kx).trans x4
      have y5 := (hb.cell (p := ⟨xb, 5, none⟩) kx).trans x5
      have zs := hb.size
      clear hpre
      simp only [frL, Act.put, List.setIfInBounds_toArray, List.set_cons_zero, List.set_cons_succ, Nat.zero_add, Nat.reduceAdd] at hK ⊢
      have HK := Lib.hid hK
      clear hK
      refine Held.mk ?_
      go_simp
      exact HK.out _ (Below.refl _ _)
    -- 1: Op.move (Operand.tmp 3)
    apply RC.ls_val (fun _ _ _ _ _ _ => trivial)
    · intro x w' hb hpre K hK
      have z0 := (hb.cell (p := ⟨qc, 0, none⟩) kg).trans g0
      have z1 := (hb.cell (p := ⟨qc, 1, none⟩) kg).trans g1
      have z2 := (hb.cell (p := ⟨qc, 2, none⟩) kg).trans g2
      have z3 := (hb.cell (p := ⟨qc, 3, none⟩) kg).trans g3
      have z4 := (hb.cell (p := ⟨qc, 4, none⟩) kg).trans g4
      have y1 := (hb.cell (p := ⟨xb, 1, none⟩) kx).trans x1
      have y2 := (hb.cell (p := ⟨xb, 2, none⟩) kx).trans x2
      have y3 := (hb.cell (p := ⟨xb, 3, none⟩) kx).trans x3
      have y4 := (hb.cell (p := ⟨xb, 4, none⟩) kx).trans x4
      have y5 := (hb.cell (p := ⟨xb, 5, none⟩) kx).trans x5
      have zs := hb.size
      clear hpre
      simp only [frL, Act.put, List.setIfInBounds_toArray, List.set_cons_zero, List.set_cons_succ, Nat.zero_add, Nat.reduceAdd] at hK ⊢
      have HK := Lib.hid hK
      clear hK
      refine Held.mk ?_
      go_simp
      exact HK.out _ (Below.refl _ _)
    -- 2: Op.indexAddr 29 (Operand.tmp 189) (Operand.const (Value.int IntKind.i64 0))
    apply RC.ls_val (fun _ _ _ _ _ _ => trivial)
    · intro x w' hb hpre K hK
      have z0 := (hb.cell (p := ⟨qc, 0, none⟩) kg).trans g0
      have z1 := (hb.cell (p := ⟨qc, 1, none⟩) kg).trans g1
      have z2 := (hb.cell (p := ⟨qc, 2, none⟩) kg).trans g2
      have z3 := (hb.cell (p := ⟨qc, 3, none⟩) kg).trans g3
      have z4 := (hb.cell (p := ⟨qc, 4, none⟩) kg).trans g4
      have y1 := (hb.cell (p := ⟨xb, 1, none⟩) kx).trans x1
      have y2 := (hb.cell (p := ⟨xb, 2, none⟩) kx).trans x2
      have y3 := (hb.cell (p := ⟨xb, 3, none⟩) kx).trans x3
      have y4 := (hb.cell (p := ⟨xb, 4, none⟩) kx).trans x4
      have y5 := (hb.cell (p := ⟨xb, 5, none⟩) kx).trans x5
      have zs := hb.size
      simp [preds, Region.binds, RC.phi, RC.MP.val] at hpre
      simp only [frL, Act.put, List.setIfInBounds_toArray, List.set_cons_zero, List.set_cons_succ, Nat.zero_add, Nat.reduceAdd, hpre] at hK ⊢
      have HK := Lib.hid hK
      clear hK
      refine Held.mk ?_
      go_simp
      exact HK.out _ (Below.refl _ _)
    -- 3: Op.fieldAddr 28 (Operand.tmp 190) 1
    apply RC.ls_val (fun _ _ _ _ _ _ => trivial)
    · intro x w' hb hpre K hK
      have z0 := (hb.cell (p := ⟨qc, 0, none⟩) kg).trans g0
      have z1 := (hb.cell (p := ⟨qc, 1, none⟩) kg).trans g1
      have z2 := (hb.cell (p := ⟨qc, 2, none⟩) kg).trans g2
      have z3 := (hb.cell (p := ⟨qc, 3, none⟩) kg).trans g3
      have z4 := (hb.cell (p := ⟨qc, 4, none⟩) kg).trans g4
      have y1 := (hb.cell (p := ⟨xb, 1, none⟩) kx).trans x1
      have y2 := (hb.cell (p := ⟨xb, 2, none⟩) kx).trans x2
      have y3 := (hb.cell (p := ⟨xb, 3, none⟩) kx).trans x3
      have y4 := (hb.cell (p := ⟨xb, 4, none⟩) kx).trans x4
      have y5 := (hb.cell (p := ⟨xb, 5, none⟩) kx).trans x5
      have zs := hb.size
      simp [preds, Region.binds, RC.phi, RC.MP.val] at hpre
      simp only [frL, Act.put, List.setIfInBounds_toArray, List.set_cons_zero, List.set_cons_succ, Nat.zero_add, Nat.reduceAdd, hpre] at hK ⊢
      have HK := Lib.hid hK
      clear hK
      refine Held.mk ?_
      go_simp
      exact HK.out _ (Below.refl _ _)
    -- 4: Op.load 24 (Operand.tmp 191)
    apply RC.ls_val (fun _ _ _ _ _ _ => trivial)
    · intro x w' hb hpre K hK
      have z0 := (hb.cell (p := ⟨qc, 0, none⟩) kg).trans g0
      have z1 := (hb.cell (p := ⟨qc, 1, none⟩) kg).trans g1
      have z2 := (hb.cell (p := ⟨qc, 2, none⟩) kg).trans g2
      have z3 := (hb.cell (p := ⟨qc, 3, none⟩) kg).trans g3
      have z4 := (hb.cell (p := ⟨qc, 4, none⟩) kg).trans g4
      have y1 := (hb.cell (p := ⟨xb, 1, none⟩) kx).trans x1
      have y2 := (hb.cell (p := ⟨xb, 2, none⟩) kx).trans x2
      have y3 := (hb.cell (p := ⟨xb, 3, none⟩) kx).trans x3
      have y4 := (hb.cell (p := ⟨xb, 4, none⟩) kx).trans x4
      have y5 := (hb.cell (p := ⟨xb, 5, none⟩) kx).trans x5
      have zs := hb.size
      simp [preds, Region.binds, RC.phi, RC.MP.val] at hpre
      simp only [frL, Act.put, List.setIfInBounds_toArray, List.set_cons_zero, List.set_cons_succ, Nat.zero_add, Nat.reduceAdd, hpre] at hK ⊢
      have HK := Lib.hid hK
      clear hK
      refine Held.mk ?_
      go_simp
      exact HK.out _ (Below.refl _ _)
    -- 5: Op.call { callee := Callee.value (Operand.func 11), args := #[Operand.tmp 188, O
    apply RC.ls_val (fun _ _ _ _ _ _ => trivial)
    · intro x w' hb hpre K hK
      have z0 := (hb.cell (p := ⟨qc, 0, none⟩) kg).trans g0
      have z1 := (hb.cell (p := ⟨qc, 1, none⟩) kg).trans g1
      have z2 := (hb.cell (p := ⟨qc, 2, none⟩) kg).trans g2
      have z3 := (hb.cell (p := ⟨qc, 3, none⟩) kg).trans g3
      have z4 := (hb.cell (p := ⟨qc, 4, none⟩) kg).trans g4
      have y1 := (hb.cell (p := ⟨xb, 1, none⟩) kx).trans x1
      have y2 := (hb.cell (p := ⟨xb, 2, none⟩) kx).trans x2
      have y3 := (hb.cell (p := ⟨xb, 3, none⟩) kx).trans x3
      have y4 := (hb.cell (p := ⟨xb, 4, none⟩) kx).trans x4
      have y5 := (hb.cell (p := ⟨xb, 5, none⟩) kx).trans x5
      have zs := hb.size
      simp [preds, Region.binds, RC.phi, RC.MP.val] at hpre
      simp only [frL, Act.put, List.setIfInBounds_toArray, List.set_cons_zero, List.set_cons_succ, Nat.zero_add, Nat.reduceAdd, hpre] at hK ⊢
      have HK := Lib.hid hK
      clear hK
      refine Held.mk ?_
      go_simp
      with_reducible refine (Oh.out w').mono ?_
      rintro e w9 ⟨rfl, hb1⟩
      dsimp only
      exact HK.out _ hb1
    -- 6: Op.move (Operand.tmp 193)
    apply RC.ls_val (fun _ _ _ _ _ _ => trivial)
    · intro x w' hb hpre K hK
      have z0 := (hb.cell (p := ⟨qc, 0, none⟩) kg).trans g0
      have z1 := (hb.cell (p := ⟨qc, 1, none⟩) kg).trans g1
      have z2 := (hb.cell (p := ⟨qc, 2, none⟩) kg).trans g2
      have z3 := (hb.cell (p := ⟨qc, 3, none⟩) kg).trans g3
      have z4 := (hb.cell (p := ⟨qc, 4, none⟩) kg).trans g4
      have y1 := (hb.cell (p := ⟨xb, 1, none⟩) kx).trans x1
      have y2 := (hb.cell (p := ⟨xb, 2, none⟩) kx).trans x2
      have y3 := (hb.cell (p := ⟨xb, 3, none⟩) kx).trans x3
      have y4 := (hb.cell (p := ⟨xb, 4, none⟩) kx).trans x4
      have y5 := (hb.cell (p := ⟨xb, 5, none⟩) kx).trans x5
      have zs := hb.size
      simp [preds, Region.binds, RC.phi, RC.MP.val] at hpre
      simp only [frL, Act.put, List.setIfInBounds_toArray, List.set_cons_zero, List.set_cons_succ, Nat.zero_add, Nat.reduceAdd, hpre] at hK ⊢
      have HK := Lib.hid hK
      clear hK
      refine Held.mk ?_
      go_simp
      exact HK.out _ (Below.refl _ _)
    -- 7: Op.extract (Operand.tmp 187) 0
    apply RC.ls_val (fun _ _ _ _ _ _ => trivial)
    · intro x w' hb hpre K hK
      have z0 := (hb.cell (p := ⟨qc, 0, none⟩) kg).trans g0
      have z1 := (hb.cell (p := ⟨qc, 1, none⟩) kg).trans g1
      have z2 := (hb.cell (p := ⟨qc, 2, none⟩) kg).trans g2
      have z3 := (hb.cell (p := ⟨qc, 3, none⟩) kg).trans g3
      have z4 := (hb.cell (p := ⟨qc, 4, none⟩) kg).trans g4
      have y1 := (hb.cell (p := ⟨xb, 1, none⟩) kx).trans x1
      have y2 := (hb.cell (p := ⟨xb, 2, none⟩) kx).trans x2
      have y3 := (hb.cell (p := ⟨xb, 3, none⟩) kx).trans x3
      have y4 := (hb.cell (p := ⟨xb, 4, none⟩) kx).trans x4
      have y5 := (hb.cell (p := ⟨xb, 5, none⟩) kx).trans x5
      have zs := hb.size
      simp [preds, Region.binds, RC.phi, RC.MP.val] at hpre
      simp only [frL, Act.put, List.setIfInBounds_toArray, List.set_cons_zero, List.set_cons_succ, Nat.zero_add, Nat.reduceAdd, hpre] at hK ⊢
      have HK := Lib.hid hK
      clear hK
      refine Held.mk ?_
      go_simp
      exact HK.out _ (Below.refl _ _)
    -- 8: Op.extract (Operand.tmp 187) 1
    apply RC.ls_val (fun _ _ _ _ _ _ => trivial)
    · intro x w' hb hpre K hK
      have z0 := (hb.cell (p := ⟨qc, 0, none⟩) kg).trans g0
      have z1 := (hb.cell (p := ⟨qc, 1, none⟩) kg).trans g1
      have z2 := (hb.cell (p := ⟨qc, 2, none⟩) kg).trans g2
      have z3 := (hb.cell (p := ⟨qc, 3, none⟩) kg).trans g3
      have z4 := (hb.cell (p := ⟨qc, 4, none⟩) kg).trans g4
      have y1 := (hb.cell (p := ⟨xb, 1, none⟩) kx).trans x1
      have y2 := (hb.cell (p := ⟨xb, 2, none⟩) kx).trans x2
      have y3 := (hb.cell (p := ⟨xb, 3, none⟩) kx).trans x3
      have y4 := (hb.cell (p := ⟨xb, 4, none⟩) kx).trans x4
      have y5 := (hb.cell (p := ⟨xb, 5, none⟩) kx).trans x5
      have zs := hb.size
      simp [preds, Region.binds, RC.phi, RC.MP.val] at hpre
      simp only [frL, Act.put, List.setIfInBounds_toArray, List.set_cons_zero, List.set_cons_succ, Nat.zero_add, Nat.reduceAdd, hpre] at hK ⊢
      have HK := Lib.hid hK
      clear hK
      refine Held.mk ?_
      go_simp
      exact HK.out _ (Below.refl _ _)
    -- 9: Op.assign (Operand.tmp 194)
    apply RC.ls_val (fun _ _ _ _ _ _ => trivial)
    · intro x w' hb hpre K hK
      have z0 := (hb.cell (p := ⟨qc, 0, none⟩) kg).trans g0
      have z1 := (hb.cell (p := ⟨qc, 1, none⟩) kg).trans g1
      have z2 := (hb.cell (p := ⟨qc, 2, none⟩) kg).trans g2
      have z3 := (hb.cell (p := ⟨qc, 3, none⟩) kg).trans g3
      have z4 := (hb.cell (p := ⟨qc, 4, none⟩) kg).trans g4
      have y1 := (hb.cell (p := ⟨xb, 1, none⟩) kx).trans x1
      have y2 := (hb.cell (p := ⟨xb, 2, none⟩) kx).trans x2
      have y3 := (hb.cell (p := ⟨xb, 3, none⟩) kx).trans x3
      have y4 := (hb.cell (p := ⟨xb, 4, none⟩) kx).trans x4
      have y5 := (hb.cell (p := ⟨xb, 5, none⟩) kx).trans x5
      have zs := hb.size
      simp [preds, Region.binds, RC.phi, RC.MP.val] at hpre
      simp only [frL, Act.put, List.setIfInBounds_toArray, List.set_cons_zero, List.set_cons_succ, Nat.zero_add, Nat.reduceAdd, hpre] at hK ⊢
      have HK := Lib.hid hK
      clear hK
      refine Held.mk ?_
      go_simp
      exact HK.out _ (Below.refl _ _)
    intro x w' hb hp hJ
    simp only [List.cons_append, List.nil_append, RC.phis, RC.MP.val, frL, Act.put, List.setIfInBounds_toArray, List.set_cons_zero, List.set_cons_succ, Nat.zero_add, Nat.reduceAdd] at hp ⊢
    obtain ⟨h0, h1, h2, h3, h4, h5, h6, h7, h8, h9, -⟩ := hp
    simp only [h0, h1, h2, h3, h4, h5, h6, h7, h8, h9]
    clear h0 h1 h2 h3 h4 h5 h6 h7 h8 h9
    have hw4 := hw3.trans (Below.mono (show Below W3.heap.size W3 w' from hb) hw3.size)
    clear g0 g1 g2 g3 g4 kg x1 x2 x3 x4 x5 kx hb hJ hw3 HX
    show wpList Tryz.prog _ _ [_] _ _
    have dl : decide (ol ≤ 0) = true := decide_eq_true ho
    have dh : decide (0 ≤ oh) = true := decide_eq_true ho2
    go_wp2_with fail
    go_returns
    exact ⟨rfl, hw4⟩
end Go.Proofs.YtfagfkfcokmclaaGreatDoor
