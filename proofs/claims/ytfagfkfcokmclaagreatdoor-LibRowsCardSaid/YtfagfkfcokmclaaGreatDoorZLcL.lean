/- LibEnds' walk (printed by lcl.py). -/
import Derived.Test.YtfagfkfcokmclaaGreatDoorZLcK
import Derived.Test.YtfagfkfcokmclaaGreatDoorZAtR
set_option linter.unusedSimpArgs false
set_option linter.unusedVariables false
set_option linter.constructorNameAsVariable false
namespace Go.Proofs.YtfagfkfcokmclaaGreatDoor
open Go.RowKit Go.Sort

theorem ItRow.six' {w : World} {g : Nat} {x : At} (h : ItRow w (some ⟨g, 0, none⟩) [x]) : g < w.heap.size ∧ w.cell? ⟨g, 0, none⟩ = some (.int .i64 0) ∧ w.cell? ⟨g, 1, none⟩ = some (.int .i64 x.k) ∧ w.cell? ⟨g, 2, none⟩ = some (.int .i64 x.n) ∧ w.cell? ⟨g, 3, none⟩ = some (.int .i64 x.s) ∧ w.cell? ⟨g, 4, none⟩ = some (.string x.t) ∧ w.cell? ⟨g, 5, none⟩ = some (.bool x.b) := by
  rcases h with h9 | ⟨b, o, he, hb, hc⟩
  · cases h9
  cases he
  exact ⟨hb, hc 0 x rfl⟩
theorem OwnI.one' {w : World} {base : Nat} {v : Value} {x : At} (h : OwnI base w v [x]) : ∃ g c, v = .slice (some ⟨g, 0, none⟩) 1 c ∧ ItRow w (some ⟨g, 0, none⟩) [x] := by
  rcases h.2 with ⟨-, h0⟩ | ⟨g, cap, cur, rfl, h1, -⟩
  · cases h0
  · obtain ⟨a, c, he, hI, -⟩ := h.read
    cases he
    exact ⟨g, cap, rfl, hI⟩
set_option maxRecDepth 100000 in
set_option maxHeartbeats 8000000 in
theorem ends_main (s t : ByteArray) (NA NB : Int) (w : World) (hs : s.size ≤ 500) (ht : t.size ≤ 500) (hA : 0 ≤ NA ∧ NA ≤ 100000) (hB : 0 ≤ NB ∧ NB ≤ 100000)
    (CW0 : ∀ W, Below w.heap.size w W → Calls Tryz.prog 7 #[] W fun e w' => e = .returned (.bool true) ∧ Below W.heap.size W w')
    (Rs0 : ∀ W, Calls Tryz.prog 8 #[.agg #[.int .i64 3, .int .i64 0, .int .i64 0, .string s, .bool false]] W fun e w' => e = .returned (.bool true) ∧ Below W.heap.size W w')
    (Rt0 : ∀ W, Calls Tryz.prog 8 #[.agg #[.int .i64 3, .int .i64 0, .int .i64 0, .string t, .bool false]] W fun e w' => e = .returned (.bool true) ∧ Below W.heap.size W w')
    (Cc0 : ∀ W ab, Below w.heap.size w W → Arg1 W ab 0 2 0 (textA s) → Arg1 W ab 0 2 1 (textA t) → Calls Tryz.prog 9 #[.pointer none, .string ⟨#[99, 111, 110, 99, 97, 116]⟩, .slice (some ⟨ab, 0, none⟩) 2 2] W (Ans [textA (s ++ t)] W))
    (Q00 : ∀ W ab, Below w.heap.size w W → Arg1 W ab 0 2 0 (textA (s ++ t)) → Arg1 W ab 0 2 1 (textA s) → Calls Tryz.prog 9 #[.pointer none, .string ⟨#[115, 116, 97, 114, 116, 115, 45, 119, 105, 116, 104]⟩, .slice (some ⟨ab, 0, none⟩) 2 2] W (Ans [truthA true] W))
    (Q10 : ∀ W ab, Below w.heap.size w W → Arg1 W ab 0 2 0 (textA (s ++ t)) → Arg1 W ab 0 2 1 (textA t) → Calls Tryz.prog 9 #[.pointer none, .string ⟨#[101, 110, 100, 115, 45, 119, 105, 116, 104]⟩, .slice (some ⟨ab, 0, none⟩) 2 2] W (Ans [truthA true] W))
    (Q20 : ∀ W ab, Below w.heap.size w W → Arg1 W ab 0 2 0 (textA (s ++ t)) → Arg1 W ab 0 2 1 (textA s) → Calls Tryz.prog 9 #[.pointer none, .string ⟨#[99, 111, 110, 116, 97, 105, 110, 115]⟩, .slice (some ⟨ab, 0, none⟩) 2 2] W (Ans [truthA true] W))
    (Q30 : ∀ W ab, Below w.heap.size w W → Arg1 W ab 0 2 0 (textA (s ++ t)) → Arg1 W ab 0 2 1 (textA t) → Calls Tryz.prog 9 #[.pointer none, .string ⟨#[99, 111, 110, 116, 97, 105, 110, 115]⟩, .slice (some ⟨ab, 0, none⟩) 2 2] W (Ans [truthA true] W))
    (LA0 : ∀ W ab, Below w.heap.size w W → Arg1 W ab 0 1 0 (textA s) → Calls Tryz.prog 9 #[.pointer none, .string ⟨#[115, 116, 114, 105, 110, 103, 45, 108, 101, 110, 103, 116, 104]⟩, .slice (some ⟨ab, 0, none⟩) 1 1] W (Ans [ofA NA] W))
    (LB0 : ∀ W ab, Below w.heap.size w W → Arg1 W ab 0 1 0 (textA t) → Calls Tryz.prog 9 #[.pointer none, .string ⟨#[115, 116, 114, 105, 110, 103, 45, 108, 101, 110, 103, 116, 104]⟩, .slice (some ⟨ab, 0, none⟩) 1 1] W (Ans [ofA NB] W))
    (LC0 : ∀ W ab, Below w.heap.size w W → Arg1 W ab 0 1 0 (textA (s ++ t)) → Calls Tryz.prog 9 #[.pointer none, .string ⟨#[115, 116, 114, 105, 110, 103, 45, 108, 101, 110, 103, 116, 104]⟩, .slice (some ⟨ab, 0, none⟩) 1 1] W (Ans [ofA (NA + NB)] W)) :
    Calls Tryz.prog 4 #[.string s, .string t] w fun e w' => e = .returned (.bool true) ∧ Below w.heap.size w w' := by
  have CW := Lib.hid CW0
  have Rs := Lib.hid Rs0
  have Rq := Lib.hid Rt0
  have Cc := Lib.hid Cc0
  have Q0 := Lib.hid Q00
  have Q1 := Lib.hid Q10
  have Q2 := Lib.hid Q20
  have Q3 := Lib.hid Q30
  have LA := Lib.hid LA0
  have LB := Lib.hid LB0
  have LC := Lib.hid LC0
  have CT := Lib.hid l19text_any
  have d1 : decide ((500 : Int) < (s.size : Int)) = false := decide_eq_false (by omega)
  have d2 : decide ((500 : Int) < (t.size : Int)) = false := decide_eq_false (by omega)
  have hst : (s ++ t).size ≤ 65536 := by rw [ByteArray.size_append]; omega
  have hs2 : s.size ≤ 65536 := by omega
  have ht2 : t.size ≤ 65536 := by omega
  have hcat : s.size + t.size ≤ 65536 := by omega
  clear CW0 Rs0 Rt0 Cc0 Q00 Q10 Q20 Q30 LA0 LB0 LC0
  go_enter Tryz.func4, Tryz.ntmps4
  go_wp2_with fail
  with_reducible refine (CW.out _ (Below.refl _ _)).mono ?_
  rintro e w1 ⟨rfl, hw1⟩
  go_wp2_with fail
  with_reducible refine (Rs.out _).mono ?_
  rintro e w2 ⟨rfl, hb⟩
  have hw2 := hw1.trans (hb.mono hw1.size)
  clear hw1 hb
  go_wp2_with fail
  with_reducible refine (Rq.out _).mono ?_
  rintro e w3 ⟨rfl, hb⟩
  have hw3 := hw2.trans (hb.mono hw2.size)
  clear hw2 hb
  go_wp2_with fail
  with_reducible refine (CT.out s w3).mono ?_
  rintro e w4 ⟨rfl, hI4, hb⟩
  have hw4 := hw3.trans (hb.mono hw3.size)
  generalize w3.heap.size = ka at *
  have HI4 := Lib.hid hI4
  clear hI4 hb
  go_wp2_with fail
  with_reducible refine (CT.out t w4).mono ?_
  rintro e w5 ⟨rfl, hI5, hb⟩
  have hw5 := hw4.trans (hb.mono hw4.size)
  have HI4' := Lib.hid (HI4.out.on hb)
  generalize w4.heap.size = kb at *
  have HI5 := Lib.hid hI5
  clear hI5 hb HI4 hw4
  go_wp2_with fail
  have Y1 : Blk (w5.alloc (.cells #[.slice (some ⟨ka, 0, none⟩) 1 1, .slice (some ⟨kb, 0, none⟩) 1 1] 29)) w5.heap.size #[.slice (some ⟨ka, 0, none⟩) 1 1, .slice (some ⟨kb, 0, none⟩) 1 1] 29 := Blk.new _ _ _
  have hbb : Below w5.heap.size w5 (w5.alloc (.cells #[.slice (some ⟨ka, 0, none⟩) 1 1, .slice (some ⟨kb, 0, none⟩) 1 1] 29)) := (Below.refl _ _).alloc (Nat.le_refl _) _
  have CX := Lib.hid (Cc.out _ w5.heap.size (hw5.trans (hbb.mono hw5.size)) (arg1_of Y1 rfl (HI4'.out.on hbb) (by omega) (by omega) hs2) (arg1_of Y1 rfl (HI5.out.on hbb) (by omega) (by omega) ht2))
  have hsb := hbb.size
  with_reducible refine CX.out.mono ?_
  rintro e w6 ⟨v, rfl, hO, hb⟩
  replace hb := hbb.trans (hb.mono hsb)
  obtain ⟨bb, bc, rfl, hI6⟩ := hO.one'
  have HI := Lib.hid hI6
  have hw6 := hw5.trans (hb.mono hw5.size)
  clear CX Y1 hbb hsb hO hb HI4' HI5 hI6 hw5 Cc
  go_wp2_with fail
  with_reducible refine (CT.out (s ++ t) w6).mono ?_
  rintro e w7 ⟨rfl, hI7, hb⟩
  have hw7 := hw6.trans (hb.mono hw6.size)
  have HI' := Lib.hid (HI.out.on hb)
  clear hb HI
  generalize w6.heap.size = kd at *
  have CS : Hid (Calls Tryz.prog 10 #[.slice (some ⟨bb, 0, none⟩) 1 bc, .slice (some ⟨kd, 0, none⟩) 1 1] w7 fun e w' => e = .returned (.bool true) ∧ Below w7.heap.size w7 w') := same_eq [textA (s ++ t)] _ bc _ 1 w7 HI'.out hI7 (by show (1 : Nat) ≤ _; omega)
  clear hI7 hw6
  go_wp2_with fail
  with_reducible refine CS.out.mono ?_
  rintro e w8 ⟨rfl, hb⟩
  have hw8 := hw7.trans (hb.mono hw7.size)
  have HI := Lib.hid (HI'.out.on hb)
  clear HI' CS hb hw7
  go_wp2_with fail
  have HK : Hid (Blk (w8.alloc (.cells #[.string ⟨#[115, 116, 97, 114, 116, 115, 45, 119, 105, 116, 104]⟩, .string ⟨#[101, 110, 100, 115, 45, 119, 105, 116, 104]⟩, .string ⟨#[99, 111, 110, 116, 97, 105, 110, 115]⟩, .string ⟨#[99, 111, 110, 116, 97, 105, 110, 115]⟩] 9)) w8.heap.size #[.string ⟨#[115, 116, 97, 114, 116, 115, 45, 119, 105, 116, 104]⟩, .string ⟨#[101, 110, 100, 115, 45, 119, 105, 116, 104]⟩, .string ⟨#[99, 111, 110, 116, 97, 105, 110, 115]⟩, .string ⟨#[99, 111, 110, 116, 97, 105, 110, 115]⟩] 9) := Blk.new _ _ _
  have hw9 := hw8.alloc hw8.size (.cells #[.string ⟨#[115, 116, 97, 114, 116, 115, 45, 119, 105, 116, 104]⟩, .string ⟨#[101, 110, 100, 115, 45, 119, 105, 116, 104]⟩, .string ⟨#[99, 111, 110, 116, 97, 105, 110, 115]⟩, .string ⟨#[99, 111, 110, 116, 97, 105, 110, 115]⟩] 9)
  have HI9 := Lib.hid (HI.out.on ((Below.refl _ _).alloc (Nat.le_refl _) (.cells #[.string ⟨#[115, 116, 97, 114, 116, 115, 45, 119, 105, 116, 104]⟩, .string ⟨#[101, 110, 100, 115, 45, 119, 105, 116, 104]⟩, .string ⟨#[99, 111, 110, 116, 97, 105, 110, 115]⟩, .string ⟨#[99, 111, 110, 116, 97, 105, 110, 115]⟩] 9)))
  clear HI
  generalize w8.alloc (.cells #[.string ⟨#[115, 116, 97, 114, 116, 115, 45, 119, 105, 116, 104]⟩, .string ⟨#[101, 110, 100, 115, 45, 119, 105, 116, 104]⟩, .string ⟨#[99, 111, 110, 116, 97, 105, 110, 115]⟩, .string ⟨#[99, 111, 110, 116, 97, 105, 110, 115]⟩] 9) = w9 at *
  generalize w8.heap.size = ak at *
  go_loopg [8] 5 (fun m ii wr => ∃ j : Nat, j ≤ 4 ∧ m + j = 5 ∧ ii = .int .i64 (j : Int) ∧ Below w9.heap.size w9 wr)
  case atStart => exact ⟨0, by omega, by omega, rfl, Below.refl _ _⟩
  case round =>
    obtain ⟨j, hj, hmj, rfl, hwr⟩ := hrel
    have hwl := hw9.trans (hwr.mono hw9.size)
    have HIr := Lib.hid (HI9.out.on hwr)
    have HKr := Lib.hid (HK.out.below hwr HK.out.lt)
    match j, hj with
    | 0, hj =>
      clear hj
      go_wp2_with fail
      with_reducible refine (CT.out s wr).mono ?_
      rintro e v1 ⟨rfl, hI1, hb⟩
      have hwl1 := hwl.trans (hb.mono hwl.size)
      have hwr1 := hwr.trans (hb.mono hwr.size)
      have HIr1 := Lib.hid (HIr.out.on hb)
      have HKr1 := Lib.hid (HKr.out.below hb HKr.out.lt)
      generalize wr.heap.size = kp at *
      clear hb hwl HIr HKr hwr
      have hwl := hwl1
      have hwr := hwr1
      have HIr := HIr1
      have HKr := HKr1
      clear hwl1 HIr1 HKr1 hwr1
      have c0 : v1.cell? ⟨ak, 0, none⟩ = some (.string ⟨#[115, 116, 97, 114, 116, 115, 45, 119, 105, 116, 104]⟩) := HKr.out.cell 0
      have kk := HKr.out.lt
      have HP := Lib.hid hI1
      clear hI1
      go_wp2_with fail
      have Y1 : Blk (v1.alloc (.cells #[.slice (some ⟨bb, 0, none⟩) 1 bc, .slice (some ⟨kp, 0, none⟩) 1 1] 29)) v1.heap.size #[.slice (some ⟨bb, 0, none⟩) 1 bc, .slice (some ⟨kp, 0, none⟩) 1 1] 29 := Blk.new _ _ _
      have hbb : Below v1.heap.size v1 (v1.alloc (.cells #[.slice (some ⟨bb, 0, none⟩) 1 bc, .slice (some ⟨kp, 0, none⟩) 1 1] 29)) := (Below.refl _ _).alloc (Nat.le_refl _) _
      have CX := Lib.hid (Q0.out _ v1.heap.size (hwl.trans (hbb.mono hwl.size)) (arg1_of Y1 rfl (HIr.out.on hbb) (by omega) (by omega) hst) (arg1_of Y1 rfl (HP.out.on hbb) (by omega) (by omega) hs2))
      have hsb := hbb.size
      with_reducible refine CX.out.mono ?_
      rintro e v9 ⟨v, rfl, hO, hb⟩
      replace hb := hbb.trans (hb.mono hsb)
      obtain ⟨lb, lc, rfl, hI8⟩ := hO.one'
      obtain ⟨kl, -, -, -, -, -, l5⟩ := hI8.six'
      have l5 : v9.cell? ⟨lb, 5, none⟩ = some (.bool true) := l5
      have hwz : Below w9.heap.size w9 v9 := hwr.trans (hb.mono hwr.size)
      clear CX Y1 hbb hsb hO hb HP c0 kk hI8 HIr HKr hwl hwr
      go_wp2_with fail
      go_roundg (gk - 1)
      case measure => omega
      case rel => exact ⟨1, by omega, by omega, by go_num, hwz⟩
    | 1, hj =>
      clear hj
      go_wp2_with fail
      with_reducible refine (CT.out s wr).mono ?_
      rintro e v1 ⟨rfl, hI1, hb⟩
      have hwl1 := hwl.trans (hb.mono hwl.size)
      have hwr1 := hwr.trans (hb.mono hwr.size)
      have HIr1 := Lib.hid (HIr.out.on hb)
      have HKr1 := Lib.hid (HKr.out.below hb HKr.out.lt)
      clear hI1 hb hwl HIr HKr hwr
      go_wp2_with fail
      with_reducible refine (CT.out t v1).mono ?_
      rintro e v2 ⟨rfl, hI1, hb⟩
      have hwl := hwl1.trans (hb.mono hwl1.size)
      have hwr := hwr1.trans (hb.mono hwr1.size)
      have HIr := Lib.hid (HIr1.out.on hb)
      have HKr := Lib.hid (HKr1.out.below hb HKr1.out.lt)
      generalize v1.heap.size = kp at *
      clear hb hwl1 HIr1 HKr1 hwr1
      have c0 : v2.cell? ⟨ak, 1, none⟩ = some (.string ⟨#[101, 110, 100, 115, 45, 119, 105, 116, 104]⟩) := HKr.out.cell 1
      have kk := HKr.out.lt
      have HP := Lib.hid hI1
      clear hI1
      go_wp2_with fail
      have Y1 : Blk (v2.alloc (.cells #[.slice (some ⟨bb, 0, none⟩) 1 bc, .slice (some ⟨kp, 0, none⟩) 1 1] 29)) v2.heap.size #[.slice (some ⟨bb, 0, none⟩) 1 bc, .slice (some ⟨kp, 0, none⟩) 1 1] 29 := Blk.new _ _ _
      have hbb : Below v2.heap.size v2 (v2.alloc (.cells #[.slice (some ⟨bb, 0, none⟩) 1 bc, .slice (some ⟨kp, 0, none⟩) 1 1] 29)) := (Below.refl _ _).alloc (Nat.le_refl _) _
      have CX := Lib.hid (Q1.out _ v2.heap.size (hwl.trans (hbb.mono hwl.size)) (arg1_of Y1 rfl (HIr.out.on hbb) (by omega) (by omega) hst) (arg1_of Y1 rfl (HP.out.on hbb) (by omega) (by omega) ht2))
      have hsb := hbb.size
      with_reducible refine CX.out.mono ?_
      rintro e v9 ⟨v, rfl, hO, hb⟩
      replace hb := hbb.trans (hb.mono hsb)
      obtain ⟨lb, lc, rfl, hI8⟩ := hO.one'
      obtain ⟨kl, -, -, -, -, -, l5⟩ := hI8.six'
      have l5 : v9.cell? ⟨lb, 5, none⟩ = some (.bool true) := l5
      have hwz : Below w9.heap.size w9 v9 := hwr.trans (hb.mono hwr.size)
      clear CX Y1 hbb hsb hO hb HP c0 kk hI8 HIr HKr hwl hwr
      go_wp2_with fail
      go_roundg (gk - 1)
      case measure => omega
      case rel => exact ⟨2, by omega, by omega, by go_num, hwz⟩
    | 2, hj =>
      clear hj
      go_wp2_with fail
      with_reducible refine (CT.out s wr).mono ?_
      rintro e v1 ⟨rfl, hI1, hb⟩
      have hwl1 := hwl.trans (hb.mono hwl.size)
      have hwr1 := hwr.trans (hb.mono hwr.size)
      have HIr1 := Lib.hid (HIr.out.on hb)
      have HKr1 := Lib.hid (HKr.out.below hb HKr.out.lt)
      generalize wr.heap.size = kp at *
      clear hb hwl HIr HKr hwr
      have hwl := hwl1
      have hwr := hwr1
      have HIr := HIr1
      have HKr := HKr1
      clear hwl1 HIr1 HKr1 hwr1
      have c0 : v1.cell? ⟨ak, 2, none⟩ = some (.string ⟨#[99, 111, 110, 116, 97, 105, 110, 115]⟩) := HKr.out.cell 2
      have kk := HKr.out.lt
      have HP := Lib.hid hI1
      clear hI1
      go_wp2_with fail
      have Y1 : Blk (v1.alloc (.cells #[.slice (some ⟨bb, 0, none⟩) 1 bc, .slice (some ⟨kp, 0, none⟩) 1 1] 29)) v1.heap.size #[.slice (some ⟨bb, 0, none⟩) 1 bc, .slice (some ⟨kp, 0, none⟩) 1 1] 29 := Blk.new _ _ _
      have hbb : Below v1.heap.size v1 (v1.alloc (.cells #[.slice (some ⟨bb, 0, none⟩) 1 bc, .slice (some ⟨kp, 0, none⟩) 1 1] 29)) := (Below.refl _ _).alloc (Nat.le_refl _) _
      have CX := Lib.hid (Q2.out _ v1.heap.size (hwl.trans (hbb.mono hwl.size)) (arg1_of Y1 rfl (HIr.out.on hbb) (by omega) (by omega) hst) (arg1_of Y1 rfl (HP.out.on hbb) (by omega) (by omega) hs2))
      have hsb := hbb.size
      with_reducible refine CX.out.mono ?_
      rintro e v9 ⟨v, rfl, hO, hb⟩
      replace hb := hbb.trans (hb.mono hsb)
      obtain ⟨lb, lc, rfl, hI8⟩ := hO.one'
      obtain ⟨kl, -, -, -, -, -, l5⟩ := hI8.six'
      have l5 : v9.cell? ⟨lb, 5, none⟩ = some (.bool true) := l5
      have hwz : Below w9.heap.size w9 v9 := hwr.trans (hb.mono hwr.size)
      clear CX Y1 hbb hsb hO hb HP c0 kk hI8 HIr HKr hwl hwr
      go_wp2_with fail
      go_roundg (gk - 1)
      case measure => omega
      case rel => exact ⟨3, by omega, by omega, by go_num, hwz⟩
    | 3, hj =>
      clear hj
      go_wp2_with fail
      with_reducible refine (CT.out s wr).mono ?_
      rintro e v1 ⟨rfl, hI1, hb⟩
      have hwl1 := hwl.trans (hb.mono hwl.size)
      have hwr1 := hwr.trans (hb.mono hwr.size)
      have HIr1 := Lib.hid (HIr.out.on hb)
      have HKr1 := Lib.hid (HKr.out.below hb HKr.out.lt)
      clear hI1 hb hwl HIr HKr hwr
      go_wp2_with fail
      with_reducible refine (CT.out t v1).mono ?_
      rintro e v2 ⟨rfl, hI1, hb⟩
      have hwl := hwl1.trans (hb.mono hwl1.size)
      have hwr := hwr1.trans (hb.mono hwr1.size)
      have HIr := Lib.hid (HIr1.out.on hb)
      have HKr := Lib.hid (HKr1.out.below hb HKr1.out.lt)
      generalize v1.heap.size = kp at *
      clear hb hwl1 HIr1 HKr1 hwr1
      have c0 : v2.cell? ⟨ak, 3, none⟩ = some (.string ⟨#[99, 111, 110, 116, 97, 105, 110, 115]⟩) := HKr.out.cell 3
      have kk := HKr.out.lt
      have HP := Lib.hid hI1
      clear hI1
      go_wp2_with fail
      have Y1 : Blk (v2.alloc (.cells #[.slice (some ⟨bb, 0, none⟩) 1 bc, .slice (some ⟨kp, 0, none⟩) 1 1] 29)) v2.heap.size #[.slice (some ⟨bb, 0, none⟩) 1 bc, .slice (some ⟨kp, 0, none⟩) 1 1] 29 := Blk.new _ _ _
      have hbb : Below v2.heap.size v2 (v2.alloc (.cells #[.slice (some ⟨bb, 0, none⟩) 1 bc, .slice (some ⟨kp, 0, none⟩) 1 1] 29)) := (Below.refl _ _).alloc (Nat.le_refl _) _
      have CX := Lib.hid (Q3.out _ v2.heap.size (hwl.trans (hbb.mono hwl.size)) (arg1_of Y1 rfl (HIr.out.on hbb) (by omega) (by omega) hst) (arg1_of Y1 rfl (HP.out.on hbb) (by omega) (by omega) ht2))
      have hsb := hbb.size
      with_reducible refine CX.out.mono ?_
      rintro e v9 ⟨v, rfl, hO, hb⟩
      replace hb := hbb.trans (hb.mono hsb)
      obtain ⟨lb, lc, rfl, hI8⟩ := hO.one'
      obtain ⟨kl, -, -, -, -, -, l5⟩ := hI8.six'
      have l5 : v9.cell? ⟨lb, 5, none⟩ = some (.bool true) := l5
      have hwz : Below w9.heap.size w9 v9 := hwr.trans (hb.mono hwr.size)
      clear CX Y1 hbb hsb hO hb HP c0 kk hI8 HIr HKr hwl hwr
      go_wp2_with fail
      go_roundg (gk - 1)
      case measure => omega
      case rel => exact ⟨4, by omega, by omega, by go_num, hwz⟩
    | 4, hj =>
      clear hj HKr hwr
      go_wp2_with fail
      with_reducible refine (CT.out s wr).mono ?_
      rintro e x0 ⟨rfl, hI1, hb⟩
      have hx0 := hwl.trans (hb.mono hwl.size)
      have HIr' := Lib.hid (HIr.out.on hb)
      clear HIr  hb hwl
      have HIr := HIr'
      clear HIr'
      generalize wr.heap.size = kp0 at *
      have HP := Lib.hid hI1
      clear hI1
      go_wp2_with fail
      have Y1 : Blk (x0.alloc (.cells #[.slice (some ⟨kp0, 0, none⟩) 1 1] 29)) x0.heap.size #[.slice (some ⟨kp0, 0, none⟩) 1 1] 29 := Blk.new _ _ _
      have hbb : Below x0.heap.size x0 (x0.alloc (.cells #[.slice (some ⟨kp0, 0, none⟩) 1 1] 29)) := (Below.refl _ _).alloc (Nat.le_refl _) _
      have CX := Lib.hid (LA.out _ x0.heap.size (hx0.trans (hbb.mono hx0.size)) (arg1_of Y1 rfl (HP.out.on hbb) (by omega) (by omega) hs2))
      have hsb := hbb.size
      with_reducible refine CX.out.mono ?_
      rintro e y0 ⟨v, rfl, hO, hb⟩
      replace hb := hbb.trans (hb.mono hsb)
      obtain ⟨rb0, rc0, rfl, hI8⟩ := hO.one'
      have hy0 := hx0.trans (hb.mono hx0.size)
      have HIr' := Lib.hid (HIr.out.on hb)
      clear HIr  CX Y1 hbb hsb hO hb hx0 HP
      have HIr := HIr'
      clear HIr'
      have HR0 := Lib.hid hI8
      clear hI8
      go_wp2_with fail
      with_reducible refine (CT.out t y0).mono ?_
      rintro e x1 ⟨rfl, hI1, hb⟩
      have hx1 := hy0.trans (hb.mono hy0.size)
      have HR0' := Lib.hid (HR0.out.on hb)
      have HIr' := Lib.hid (HIr.out.on hb)
      clear HIr HR0 hb hy0
      have HIr := HIr'
      clear HIr'
      have HR0 := HR0'
      clear HR0'
      generalize y0.heap.size = kp1 at *
      have HP := Lib.hid hI1
      clear hI1
      go_wp2_with fail
      have Y1 : Blk (x1.alloc (.cells #[.slice (some ⟨kp1, 0, none⟩) 1 1] 29)) x1.heap.size #[.slice (some ⟨kp1, 0, none⟩) 1 1] 29 := Blk.new _ _ _
      have hbb : Below x1.heap.size x1 (x1.alloc (.cells #[.slice (some ⟨kp1, 0, none⟩) 1 1] 29)) := (Below.refl _ _).alloc (Nat.le_refl _) _
      have CX := Lib.hid (LB.out _ x1.heap.size (hx1.trans (hbb.mono hx1.size)) (arg1_of Y1 rfl (HP.out.on hbb) (by omega) (by omega) ht2))
      have hsb := hbb.size
      with_reducible refine CX.out.mono ?_
      rintro e y1 ⟨v, rfl, hO, hb⟩
      replace hb := hbb.trans (hb.mono hsb)
      obtain ⟨rb1, rc1, rfl, hI8⟩ := hO.one'
      have hy1 := hx1.trans (hb.mono hx1.size)
      have HR0' := Lib.hid (HR0.out.on hb)
      have HIr' := Lib.hid (HIr.out.on hb)
      clear HIr HR0 CX Y1 hbb hsb hO hb hx1 HP
      have HIr := HIr'
      clear HIr'
      have HR0 := HR0'
      clear HR0'
      have HR1 := Lib.hid hI8
      clear hI8
      go_wp2_with fail
      have Y1 : Blk (y1.alloc (.cells #[.slice (some ⟨bb, 0, none⟩) 1 bc] 29)) y1.heap.size #[.slice (some ⟨bb, 0, none⟩) 1 bc] 29 := Blk.new _ _ _
      have hbb : Below y1.heap.size y1 (y1.alloc (.cells #[.slice (some ⟨bb, 0, none⟩) 1 bc] 29)) := (Below.refl _ _).alloc (Nat.le_refl _) _
      have CX := Lib.hid (LC.out _ y1.heap.size (hy1.trans (hbb.mono hy1.size)) (arg1_of Y1 rfl (HIr.out.on hbb) (by omega) (by omega) hst))
      have hsb := hbb.size
      with_reducible refine CX.out.mono ?_
      rintro e y2 ⟨v, rfl, hO, hb⟩
      replace hb := hbb.trans (hb.mono hsb)
      obtain ⟨rb2, rc2, rfl, hI8⟩ := hO.one'
      have hy2 := hy1.trans (hb.mono hy1.size)
      have HR0' := Lib.hid (HR0.out.on hb)
      have HR1' := Lib.hid (HR1.out.on hb)
      have HIr' := Lib.hid (HIr.out.on hb)
      clear HIr HR0 HR1 CX Y1 hbb hsb hO hb hy1 
      have HIr := HIr'
      clear HIr'
      have HR0 := HR0'
      clear HR0'
      have HR1 := HR1'
      clear HR1'
      have HR2 := Lib.hid hI8
      clear hI8
      obtain ⟨kl0, -, -, n0, -, -, -⟩ := HR0.out.six'
      replace n0 : y2.cell? ⟨rb0, 2, none⟩ = some (.int .i64 NA) := n0
      obtain ⟨kl1, -, -, n1, -, -, -⟩ := HR1.out.six'
      replace n1 : y2.cell? ⟨rb1, 2, none⟩ = some (.int .i64 NB) := n1
      obtain ⟨kl2, -, -, n2, -, -, -⟩ := HR2.out.six'
      replace n2 : y2.cell? ⟨rb2, 2, none⟩ = some (.int .i64 (NA + NB)) := n2
      obtain ⟨hA1, hA2⟩ := hA
      obtain ⟨hB1, hB2⟩ := hB
      clear HR0 HR1 HR2 HIr
      go_wp2_with fail
      go_quiet (fail)
      have hq : Below y2.heap.size y2 (y2.drewN nq) := ⟨rfl, rfl, rfl, Nat.le_refl _, fun _ _ => rfl⟩
      have hz := hy2.trans (hq.mono hy2.size)
      go_wp2_with fail
      go_returns
      exact ⟨rfl, hz⟩
    | j + 5, hj => omega
end Go.Proofs.YtfagfkfcokmclaaGreatDoor
