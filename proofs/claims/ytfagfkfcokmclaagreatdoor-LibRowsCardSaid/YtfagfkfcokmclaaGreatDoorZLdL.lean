/- LibRows' walk (printed by ldl.py). -/
import Derived.Test.YtfagfkfcokmclaaGreatDoorZLdI
import Derived.Test.YtfagfkfcokmclaaGreatDoorZLcS
import Derived.Lib.QuietBelow
import Derived.BigQuiet
import Derived.IntWalk
set_option linter.unusedSimpArgs false
set_option linter.unusedVariables false
set_option linter.constructorNameAsVariable false
namespace Go.Proofs.YtfagfkfcokmclaaGreatDoor
open Go.RowKit Go.Sort

theorem OwnI.readc {w : World} {base : Nat} {v : Value} {xs : List At} (h : OwnI base w v xs) : ∃ a c, v = .slice a xs.length c ∧ ItRow w a xs ∧ xs.length ≤ c := by
  obtain ⟨a, c, rfl, hI, -⟩ := h.read
  refine ⟨a, c, rfl, hI, ?_⟩
  rcases h.2 with ⟨he, h0⟩ | ⟨g, cap, cur, he, h1, h2, h3, h4⟩
  · omega
  · cases he
    exact h3
theorem Ans.row {xs : List At} {N : Nat} {w w' : World} {e : Ending} (h : Ans xs w e w') (hN : xs.length = N) : ∃ a c, e = .returned (.tuple #[.slice a N c, .int .i64 0]) ∧ ItRow w' a xs ∧ N ≤ c ∧ Below w.heap.size w w' := by
  obtain ⟨v, rfl, hO, hb⟩ := h
  obtain ⟨a, c, rfl, hI, hc⟩ := hO.readc
  subst hN
  exact ⟨a, c, rfl, hI, hc, hb⟩
set_option maxRecDepth 100000 in
set_option maxHeartbeats 16000000 in
theorem rows_main (ns ls A B : List Int) (at' : Int) (N K LA LB : Nat) (SA SB SS M : Int) (al : Option Addr) (cl : Nat) (w : World)
    (hI : IRow w al N ns) (hls : ls = ns.map (·.tmod 1000000)) (hN2 : N ≤ 200)
    (hx : ∀ x ∈ ls, -1000000 ≤ x ∧ x ≤ 1000000)
    (hlA : A.length = LA) (hlB : B.length = LB) (hAB : LA + LB = N)
    (hm1 : -((N : Int) + 1) < at'.tmod ((N : Int) + 1)) (hm2 : at'.tmod ((N : Int) + 1) < (N : Int) + 1)
    (hK : (at'.tmod ((N : Int) + 1) + (N : Int) + 1).tmod ((N : Int) + 1) = (K : Int)) (hK1 : K ≤ N)
    (hS : SA + SB = SS) (bA : -1000000000000 ≤ SA ∧ SA ≤ 1000000000000) (bB : -1000000000000 ≤ SB ∧ SB ≤ 1000000000000)
    (hM : ls ≠ [] → M ∈ ls ∧ ∀ y ∈ ls, y ≤ M)
    (CW0 : ∀ W, Below w.heap.size w W → Calls Tryz.prog 7 #[] W fun e w' => e = .returned (.bool true) ∧ Below W.heap.size W w')
    (Q10 : ∀ W ab, Below w.heap.size w W → ArgC W ab 0 1 0 (ls.map ofA) → Calls Tryz.prog 9 #[.pointer none, .string ⟨#[114, 101, 118, 101, 114, 115, 101]⟩, .slice (some ⟨ab, 0, none⟩) 1 1] W (Ans (ls.reverse.map ofA) W))
    (Q20 : ∀ W ab, Below w.heap.size w W → ArgC W ab 0 1 0 (ls.reverse.map ofA) → Calls Tryz.prog 9 #[.pointer none, .string ⟨#[114, 101, 118, 101, 114, 115, 101]⟩, .slice (some ⟨ab, 0, none⟩) 1 1] W (Ans (ls.map ofA) W))
    (Q30 : ∀ W ab, Below w.heap.size w W → ArgC W ab 0 3 0 (ls.map ofA) → Arg1 W ab 0 3 1 (ofA 1) → Arg1 W ab 0 3 2 (ofA (K : Int)) → Calls Tryz.prog 9 #[.pointer none, .string ⟨#[115, 117, 98, 115, 101, 113, 117, 101, 110, 99, 101]⟩, .slice (some ⟨ab, 0, none⟩) 3 3] W (Ans (A.map ofA) W))
    (Q40 : ∀ W ab, Below w.heap.size w W → ArgC W ab 0 2 0 (ls.map ofA) → Arg1 W ab 0 2 1 (ofA ((K : Int) + 1)) → Calls Tryz.prog 9 #[.pointer none, .string ⟨#[115, 117, 98, 115, 101, 113, 117, 101, 110, 99, 101]⟩, .slice (some ⟨ab, 0, none⟩) 2 2] W (Ans (B.map ofA) W))
    (Q50 : ∀ W ab, Below w.heap.size w W → ArgR W ab 0 1 0 (A.map ofA) → Calls Tryz.prog 9 #[.pointer none, .string ⟨#[115, 117, 109]⟩, .slice (some ⟨ab, 0, none⟩) 1 1] W (Ans ([ofA SA]) W))
    (Q60 : ∀ W ab, Below w.heap.size w W → ArgR W ab 0 1 0 (B.map ofA) → Calls Tryz.prog 9 #[.pointer none, .string ⟨#[115, 117, 109]⟩, .slice (some ⟨ab, 0, none⟩) 1 1] W (Ans ([ofA SB]) W))
    (Q70 : ∀ W ab, Below w.heap.size w W → ArgR W ab 0 1 0 (ls.map ofA) → Calls Tryz.prog 9 #[.pointer none, .string ⟨#[115, 117, 109]⟩, .slice (some ⟨ab, 0, none⟩) 1 1] W (Ans ([ofA SS]) W))
    (Q80 : ∀ W ab, Below w.heap.size w W → ArgR W ab 0 1 0 (ls.map ofA) → Calls Tryz.prog 9 #[.pointer none, .string ⟨#[109, 97, 120]⟩, .slice (some ⟨ab, 0, none⟩) 1 1] W (Ans (maxA ls M) W)) :
    Calls Tryz.prog 6 #[.slice al N cl, .int .i64 at'] w fun e w' => e = .returned (.bool true) ∧ Below w.heap.size w w' := by
  have CW := Lib.hid CW0
  have Q1 := Lib.hid Q10
  have Q2 := Lib.hid Q20
  have Q3 := Lib.hid Q30
  have Q4 := Lib.hid Q40
  have Q5 := Lib.hid Q50
  have Q6 := Lib.hid Q60
  have Q7 := Lib.hid Q70
  have Q8 := Lib.hid Q80
  have HMX := Lib.hid (And.intro hM hx)
  have hlN : ls.length = N := by rw [hls, List.length_map]; exact hI.1
  have HLX : Hid ((ls.map ofA).length = N) := by
    show (ls.map ofA).length = N
    rw [List.length_map, hlN]
  have HLR : Hid ((ls.reverse.map ofA).length = N) := by
    show (ls.reverse.map ofA).length = N
    rw [List.length_map, List.length_reverse, hlN]
  have HLA : Hid ((A.map ofA).length = LA) := by
    show (A.map ofA).length = LA
    rw [List.length_map, hlA]
  have HLB : Hid ((B.map ofA).length = LB) := by
    show (B.map ofA).length = LB
    rw [List.length_map, hlB]
  have HLN := Lib.hid hlN
  have HII := Lib.hid hI
  have HLS := Lib.hid hls
  have HKK := Lib.hid hK
  have HSS := Lib.hid hS
  have CF1 : Hid (∀ (n : Int) (W : World), Calls Tryz.prog 13 #[.slice (some ⟨W.heap.size, 0, none⟩) 1 1] (W.alloc (.cells #[.int .i64 n] 3)) fun e w' => ∃ a c, e = .returned (.slice a 1 c) ∧ ItRow w' a [ofA n] ∧ Below W.heap.size W w') := fun n W => l19of_new [n] (by show (1 : Nat) ≤ _; omega) W _ rfl
  have d1 : decide ((200 : Int) < (N : Int)) = false := decide_eq_false (by omega)
  have hLA2 : LA ≤ 200 := by omega
  have hLB2 : LB ≤ 200 := by omega
  clear CW0 Q10 Q20 Q30 Q40 Q50 Q60 Q70 Q80 hM hx hls hlN hlA hlB hK hI hS
  have z0 : (0 : Nat) ≤ 65536 := by omega
  go_enter Tryz.func6, Tryz.ntmps6
  go_wp2_with fail
  with_reducible refine (CW.out _ (Below.refl _ _)).mono ?_
  rintro e w1 ⟨rfl, hw1⟩
  have hs1 := hw1.size
  go_wp2_with fail
  go_loopg [5, 6] (N + 1) (fun m oo ii wr => ∃ j : Nat, j ≤ N ∧ m + j = N + 1 ∧ ii = .int .i64 (j : Int) ∧ ORow wr w.heap.size oo (ls.take j) ∧ Below w.heap.size w wr)
  case atStart => exact ⟨0, by omega, by omega, rfl, ORow.nil _ _, hw1⟩
  case round =>
    clear hw1 hs1
    obtain ⟨j, hj, hmj, rfl, hO, hwr⟩ := hrel
    have HO := Lib.hid hO
    have hj0 : (0 : Int) ≤ (j : Int) := Int.natCast_nonneg _
    by_cases hlt : j < N
    · have i0 : decide ((j : Int) < (N : Int)) = true := by simp; omega
      have i6 : (j : Int) < (N : Int) := by omega
      obtain ⟨x, hjx⟩ : ∃ x, ns[j]? = some x := ⟨_, List.getElem?_eq_getElem (by rw [HII.out.1]; exact hlt)⟩
      obtain ⟨b, o, rfl, hb, hc⟩ := HII.out.2.2 (by omega)
      have u0 := (hwr.cell (p := ⟨b, o + j, none⟩) hb).trans (hc j x hjx)
      have lb := Nat.lt_of_lt_of_le hb hwr.size
      have htk : (ls.take j).length ≤ 200 := by rw [List.length_take]; omega
      have hts : ls.take (j + 1) = ls.take j ++ [x.tmod 1000000] := by
        rw [List.take_add_one]
        congr 1
        rw [HLS.out, List.getElem?_map, hjx]
        rfl
      have HTS := Lib.hid hts
      have hs1 := hwr.size
      clear hc hjx hO hts
      go_wp2_with (at_builtin; refine wpList_app rfl _ _ rfl w.heap.size _ (ls.take j) [x.tmod 1000000] rfl (HO.out.below ((Below.refl _ _).alloc (Nat.le_refl _) _) (Nat.le_refl _)) _ 1 _ rfl (irow1 _ _ _) (by intro h; cases h) (by omega) (by simp; omega) ?_)
      intro v' w5 hO5 hb5
      have hw5 : Below w.heap.size w w5 := (hwr.alloc hs1 _).trans hb5
      rw [← HTS.out] at hO5
      go_wp2_with fail
      go_roundg (gk - 1)
      case measure => omega
      case rel => exact ⟨j + 1, by omega, by omega, by go_num, hO5, hw5⟩
    · have i0 : decide ((j : Int) < (N : Int)) = false := by simp; omega
      have hO' := hO
      rw [List.take_of_length_le (by rw [HLN.out]; omega)] at hO'
      obtain ⟨a5, c5, rfl, hI5⟩ := hO'.lit (by rw [HLN.out]; omega)
      have hrl : NsRow wr a5 ls := by
        rcases Nat.eq_zero_or_pos N with h0 | h0
        · exact .inl (List.length_eq_zero_iff.1 (by rw [HLN.out]; exact h0))
        · obtain ⟨b, o, rfl, hb, hc⟩ := hI5.2.2 (by rw [HLN.out]; exact h0)
          exact .inr ⟨b, o, rfl, hb, hc⟩
      have HRl := Lib.hid hrl
      rw [HLN.out]
      have CX : Hid (Calls Tryz.prog 13 #[.slice a5 N c5] wr fun e w' => ∃ a c, e = .returned (.slice a N c) ∧ ItRow w' a (ls.map ofA) ∧ N ≤ c ∧ Below wr.heap.size wr w') := by
        have := l19of_any ls a5 c5 wr hrl (by rw [HLN.out]; omega)
        rw [HLN.out] at this
        refine Calls.mono this ?_
        rintro e w' ⟨v, rfl, hO, hb⟩
        obtain ⟨a, c, rfl, hI, hc⟩ := hO.readc
        rw [HLX.out] at hc ⊢
        exact ⟨a, c, rfl, hI, hc, hb⟩
      clear HO hO hO' hI5 hrl HII HLS
      go_wp2_with fail
      with_reducible refine CX.out.mono ?_
      rintro e v0 ⟨ax, cx, rfl, hI, kx, hb⟩
      have hv0 := hwr.trans (hb.mono hwr.size)
      replace HRl := Lib.hid (HRl.out.on hb)
      have HRx := Lib.hid hI
      clear CX hb hI hwr
      go_wp2_with fail
      have Y1 : Blk (v0.alloc (.cells #[.slice ax N cx] 29)) v0.heap.size #[.slice ax N cx] 29 := Blk.new _ _ _
      have hbb : Below v0.heap.size v0 (v0.alloc (.cells #[.slice ax N cx] 29)) := (Below.refl _ _).alloc (Nat.le_refl _) _
      have CX := Lib.hid (Q1.out _ v0.heap.size (hv0.trans (hbb.mono hv0.size)) (argC_of (c := cx) Y1 (by rw [HLX.out]; rfl) (HRx.out.on hbb) (by omega) (by omega) (by rw [HLX.out]; exact kx)))
      have hsb := hbb.size
      with_reducible refine CX.out.mono ?_
      rintro e v1 hA
      obtain ⟨ar, cr, rfl, hI, kr, hb⟩ := hA.row HLR.out
      replace hb := hbb.trans (hb.mono hsb)
      clear hA
      clear CX Y1 hbb hsb
      have hv1 := hv0.trans (hb.mono hv0.size)
      replace HRl := Lib.hid (HRl.out.on hb)
      replace HRx := Lib.hid (HRx.out.on hb)
      clear hb hv0
      have HRr := Lib.hid hI
      clear hI
      go_wp2_with fail
      have Y1 : Blk (v1.alloc (.cells #[.slice ar N cr] 29)) v1.heap.size #[.slice ar N cr] 29 := Blk.new _ _ _
      have hbb : Below v1.heap.size v1 (v1.alloc (.cells #[.slice ar N cr] 29)) := (Below.refl _ _).alloc (Nat.le_refl _) _
      have CX := Lib.hid (Q2.out _ v1.heap.size (hv1.trans (hbb.mono hv1.size)) (argC_of (c := cr) Y1 (by rw [HLR.out]; rfl) (HRr.out.on hbb) (by omega) (by omega) (by rw [HLR.out]; exact kr)))
      have hsb := hbb.size
      with_reducible refine CX.out.mono ?_
      rintro e v2 hA
      obtain ⟨ag, cg, rfl, hI, kg, hb⟩ := hA.row HLX.out
      replace hb := hbb.trans (hb.mono hsb)
      clear hA
      clear CX Y1 hbb hsb
      have hv2 := hv1.trans (hb.mono hv1.size)
      replace HRl := Lib.hid (HRl.out.on hb)
      replace HRx := Lib.hid (HRx.out.on hb)
      replace HRr := Lib.hid (HRr.out.on hb)
      clear hb hv1
      have HRg := Lib.hid hI
      clear hI
      clear HRr
      have hK := HKK.out
      go_wp2_with fail
      with_reducible refine (CF1.out (1) v2).mono ?_
      rintro e v3 ⟨ay3, cy3, rfl, hI, hb⟩
      have hv3 := hv2.trans (hb.mono hv2.size)
      replace HRl := Lib.hid (HRl.out.on hb)
      replace HRx := Lib.hid (HRx.out.on hb)
      replace HRg := Lib.hid (HRg.out.on hb)
      clear hb hv2
      have HRy3 := Lib.hid hI
      clear hI
      clear hK hm1 hm2
      go_wp2_with fail
      with_reducible refine (CF1.out ((K : Int)) v3).mono ?_
      rintro e v4 ⟨az3, cz3, rfl, hI, hb⟩
      have hv4 := hv3.trans (hb.mono hv3.size)
      replace HRl := Lib.hid (HRl.out.on hb)
      replace HRx := Lib.hid (HRx.out.on hb)
      replace HRg := Lib.hid (HRg.out.on hb)
      replace HRy3 := Lib.hid (HRy3.out.on hb)
      clear hb hv3
      have HRz3 := Lib.hid hI
      clear hI
      go_wp2_with fail
      have Y1 : Blk (v4.alloc (.cells #[.slice ax N cx, .slice ay3 1 cy3, .slice az3 1 cz3] 29)) v4.heap.size #[.slice ax N cx, .slice ay3 1 cy3, .slice az3 1 cz3] 29 := Blk.new _ _ _
      have hbb : Below v4.heap.size v4 (v4.alloc (.cells #[.slice ax N cx, .slice ay3 1 cy3, .slice az3 1 cz3] 29)) := (Below.refl _ _).alloc (Nat.le_refl _) _
      have CX := Lib.hid (Q3.out _ v4.heap.size (hv4.trans (hbb.mono hv4.size)) (argC_of (c := cx) Y1 (by rw [HLX.out]; rfl) (HRx.out.on hbb) (by omega) (by omega) (by rw [HLX.out]; exact kx)) (arg1_of Y1 rfl (HRy3.out.on hbb) (by omega) (by omega) z0) (arg1_of Y1 rfl (HRz3.out.on hbb) (by omega) (by omega) z0))
      have hsb := hbb.size
      with_reducible refine CX.out.mono ?_
      rintro e v5 hA
      obtain ⟨aA, cA, rfl, hI, kA, hb⟩ := hA.row HLA.out
      replace hb := hbb.trans (hb.mono hsb)
      clear hA
      clear CX Y1 hbb hsb
      have hv5 := hv4.trans (hb.mono hv4.size)
      replace HRl := Lib.hid (HRl.out.on hb)
      replace HRx := Lib.hid (HRx.out.on hb)
      replace HRg := Lib.hid (HRg.out.on hb)
      replace HRy3 := Lib.hid (HRy3.out.on hb)
      replace HRz3 := Lib.hid (HRz3.out.on hb)
      clear hb hv4
      have HRA := Lib.hid hI
      clear hI
      clear HRy3 HRz3
      go_wp2_with fail
      with_reducible refine (CF1.out ((K : Int) + 1) v5).mono ?_
      rintro e v6 ⟨ay4, cy4, rfl, hI, hb⟩
      have hv6 := hv5.trans (hb.mono hv5.size)
      replace HRl := Lib.hid (HRl.out.on hb)
      replace HRx := Lib.hid (HRx.out.on hb)
      replace HRg := Lib.hid (HRg.out.on hb)
      replace HRA := Lib.hid (HRA.out.on hb)
      clear hb hv5
      have HRy4 := Lib.hid hI
      clear hI
      go_wp2_with fail
      have Y1 : Blk (v6.alloc (.cells #[.slice ax N cx, .slice ay4 1 cy4] 29)) v6.heap.size #[.slice ax N cx, .slice ay4 1 cy4] 29 := Blk.new _ _ _
      have hbb : Below v6.heap.size v6 (v6.alloc (.cells #[.slice ax N cx, .slice ay4 1 cy4] 29)) := (Below.refl _ _).alloc (Nat.le_refl _) _
      have CX := Lib.hid (Q4.out _ v6.heap.size (hv6.trans (hbb.mono hv6.size)) (argC_of (c := cx) Y1 (by rw [HLX.out]; rfl) (HRx.out.on hbb) (by omega) (by omega) (by rw [HLX.out]; exact kx)) (arg1_of Y1 rfl (HRy4.out.on hbb) (by omega) (by omega) z0))
      have hsb := hbb.size
      with_reducible refine CX.out.mono ?_
      rintro e v7 hA
      obtain ⟨aB, cB, rfl, hI, kB, hb⟩ := hA.row HLB.out
      replace hb := hbb.trans (hb.mono hsb)
      clear hA
      clear CX Y1 hbb hsb
      have hv7 := hv6.trans (hb.mono hv6.size)
      replace HRl := Lib.hid (HRl.out.on hb)
      replace HRx := Lib.hid (HRx.out.on hb)
      replace HRg := Lib.hid (HRg.out.on hb)
      replace HRA := Lib.hid (HRA.out.on hb)
      replace HRy4 := Lib.hid (HRy4.out.on hb)
      clear hb hv6
      have HRB := Lib.hid hI
      clear hI
      clear HRy4
      go_wp2_with fail
      have Y1 : Blk (v7.alloc (.cells #[.slice aA LA cA] 29)) v7.heap.size #[.slice aA LA cA] 29 := Blk.new _ _ _
      have hbb : Below v7.heap.size v7 (v7.alloc (.cells #[.slice aA LA cA] 29)) := (Below.refl _ _).alloc (Nat.le_refl _) _
      have CX := Lib.hid (Q5.out _ v7.heap.size (hv7.trans (hbb.mono hv7.size)) (argR_of (c := cA) Y1 (by rw [HLA.out]; rfl) (HRA.out.on hbb) (by omega) (by omega) (by rw [sum_ofA]; omega) (by rw [HLA.out]; omega)))
      have hsb := hbb.size
      with_reducible refine CX.out.mono ?_
      rintro e v8 ⟨v, rfl, hO, hb⟩
      replace hb := hbb.trans (hb.mono hsb)
      obtain ⟨bp, cp, rfl, hI⟩ := hO.one'
      clear hO
      clear CX Y1 hbb hsb
      have hv8 := hv7.trans (hb.mono hv7.size)
      replace HRl := Lib.hid (HRl.out.on hb)
      replace HRx := Lib.hid (HRx.out.on hb)
      replace HRg := Lib.hid (HRg.out.on hb)
      replace HRA := Lib.hid (HRA.out.on hb)
      replace HRB := Lib.hid (HRB.out.on hb)
      clear hb hv7
      have HRp := Lib.hid hI
      clear hI
      clear HRA
      go_wp2_with fail
      have Y1 : Blk (v8.alloc (.cells #[.slice aB LB cB] 29)) v8.heap.size #[.slice aB LB cB] 29 := Blk.new _ _ _
      have hbb : Below v8.heap.size v8 (v8.alloc (.cells #[.slice aB LB cB] 29)) := (Below.refl _ _).alloc (Nat.le_refl _) _
      have CX := Lib.hid (Q6.out _ v8.heap.size (hv8.trans (hbb.mono hv8.size)) (argR_of (c := cB) Y1 (by rw [HLB.out]; rfl) (HRB.out.on hbb) (by omega) (by omega) (by rw [sum_ofA]; omega) (by rw [HLB.out]; omega)))
      have hsb := hbb.size
      with_reducible refine CX.out.mono ?_
      rintro e v9 ⟨v, rfl, hO, hb⟩
      replace hb := hbb.trans (hb.mono hsb)
      obtain ⟨bq, cq, rfl, hI⟩ := hO.one'
      clear hO
      clear CX Y1 hbb hsb
      have hv9 := hv8.trans (hb.mono hv8.size)
      replace HRl := Lib.hid (HRl.out.on hb)
      replace HRx := Lib.hid (HRx.out.on hb)
      replace HRg := Lib.hid (HRg.out.on hb)
      replace HRB := Lib.hid (HRB.out.on hb)
      replace HRp := Lib.hid (HRp.out.on hb)
      clear hb hv8
      have HRq := Lib.hid hI
      clear hI
      clear HRB
      go_wp2_with fail
      have Y1 : Blk (v9.alloc (.cells #[.slice ax N cx] 29)) v9.heap.size #[.slice ax N cx] 29 := Blk.new _ _ _
      have hbb : Below v9.heap.size v9 (v9.alloc (.cells #[.slice ax N cx] 29)) := (Below.refl _ _).alloc (Nat.le_refl _) _
      have CX := Lib.hid (Q7.out _ v9.heap.size (hv9.trans (hbb.mono hv9.size)) (argR_of (c := cx) Y1 (by rw [HLX.out]; rfl) (HRx.out.on hbb) (by omega) (by omega) (by rw [sum_ofA]; omega) (by rw [HLX.out]; omega)))
      have hsb := hbb.size
      with_reducible refine CX.out.mono ?_
      rintro e v10 ⟨v, rfl, hO, hb⟩
      replace hb := hbb.trans (hb.mono hsb)
      obtain ⟨bs, cs, rfl, hI⟩ := hO.one'
      clear hO
      clear CX Y1 hbb hsb
      have hv10 := hv9.trans (hb.mono hv9.size)
      replace HRl := Lib.hid (HRl.out.on hb)
      replace HRx := Lib.hid (HRx.out.on hb)
      replace HRg := Lib.hid (HRg.out.on hb)
      replace HRp := Lib.hid (HRp.out.on hb)
      replace HRq := Lib.hid (HRq.out.on hb)
      clear hb hv9
      have HRs := Lib.hid hI
      clear hI
      have CS : Hid (∀ U, Below v10.heap.size v10 U → Calls Tryz.prog 10 #[.slice ag N cg, .slice ax N cx] U fun e w' => e = .returned (.bool true) ∧ Below U.heap.size U w') := fun U hU => by
        have := same_eq (ls.map ofA) ag cg ax cx U (HRg.out.on hU) (HRx.out.on hU) (by rw [HLX.out]; omega)
        rw [HLX.out] at this
        exact this
      obtain ⟨kp, -, -, gp, -, -, -⟩ := HRp.out.six'
      replace gp : v10.cell? ⟨bp, 2, none⟩ = some (.int .i64 SA) := gp
      obtain ⟨kq, -, -, gq, -, -, -⟩ := HRq.out.six'
      replace gq : v10.cell? ⟨bq, 2, none⟩ = some (.int .i64 SB) := gq
      obtain ⟨ks, -, -, gs, -, -, -⟩ := HRs.out.six'
      replace gs : v10.cell? ⟨bs, 2, none⟩ = some (.int .i64 SS) := gs
      have rp := cell_regrown gp
      have rq := cell_regrown gq
      have rs := cell_regrown gs
      have hS := HSS.out
      have wS : IntKind.i64.wrap (SA + SB) = SS := by rw [← hS]; exact IntWalk.i64_in _ (by omega)
      have wN : IntKind.i64.wrap ((LA : Int) + (LB : Int)) = (N : Int) := by
        rw [show (N : Int) = (LA : Int) + (LB : Int) by omega]
        exact IntWalk.i64_in _ (by omega)
      go_wp2_with fail
      refine wp_region_quiet_below (by kernel_rfl) (by kernel_rfl) ?_
      simp only [List.append_eq, List.cons_append, List.nil_append]
      repeat (go_big_quiet_step (first
        | (go_at_call 10; with_reducible exact Calls.regrown_of (CS.out _ (below_regrown _ _ _)))))
      refine wpQuiet_nil ?_
      intro _ hw'
      obtain ⟨⟨dq, osq⟩, hw''⟩ := hw'
      subst hw''
      have hb := below_regrown v10 dq osq
      generalize grow (redrawn v10 dq) osq = u0 at *
      clear rp rq rs gp gq gs kp kq ks CS wS wN hS
      clear HRg HRp HRq HRs
      have hu0 := hv10.trans (hb.mono hv10.size)
      replace HRl := Lib.hid (HRl.out.on hb)
      replace HRx := Lib.hid (HRx.out.on hb)
      clear hb hv10
      clear bA bB
      by_cases hN0 : N = 0
      · have hmx : maxA ls M = [] := by unfold maxA; rw [if_pos (HLN.out.trans hN0)]
        have Q9 := Lib.hid (fun W ab h1 h2 => hmx ▸ Q8.out W ab h1 h2)
        have HN0 := Lib.hid hN0
        clear hmx hN0
        go_wp2_with fail
        have Y1 : Blk (u0.alloc (.cells #[.slice ax N cx] 29)) u0.heap.size #[.slice ax N cx] 29 := Blk.new _ _ _
        have hbb : Below u0.heap.size u0 (u0.alloc (.cells #[.slice ax N cx] 29)) := (Below.refl _ _).alloc (Nat.le_refl _) _
        have CX := Lib.hid (Q9.out _ u0.heap.size (hu0.trans (hbb.mono hu0.size)) (argR_of (c := cx) Y1 (by rw [HLX.out]; rfl) (HRx.out.on hbb) (by omega) (by omega) (by rw [sum_ofA]; omega) (by rw [HLX.out]; omega)))
        have hsb := hbb.size
        with_reducible refine CX.out.mono ?_
        rintro e v11 ⟨v, rfl, hO, hb⟩
        replace hb := hbb.trans (hb.mono hsb)
        obtain ⟨am, cm, rfl, hI⟩ := hO.it
        clear hO
        clear CX Y1 hbb hsb
        have hv11 := hu0.trans (hb.mono hu0.size)
        replace HRl := Lib.hid (HRl.out.on hb)
        replace HRx := Lib.hid (HRx.out.on hb)
        clear hb hu0
        have HRm := Lib.hid hI
        clear hI
        clear HRm HRx HRl
        have hN0 := HN0.out
        clear HN0
        subst hN0
        go_wp2_with fail
        go_returns
        exact ⟨rfl, hv11⟩
      · have hmx : maxA ls M = [ofA M] := by unfold maxA; rw [if_neg (fun h => hN0 (HLN.out.symm.trans h))]
        have Q9 := Lib.hid (fun W ab h1 h2 => hmx ▸ Q8.out W ab h1 h2)
        clear hmx
        go_wp2_with fail
        have Y1 : Blk (u0.alloc (.cells #[.slice ax N cx] 29)) u0.heap.size #[.slice ax N cx] 29 := Blk.new _ _ _
        have hbb : Below u0.heap.size u0 (u0.alloc (.cells #[.slice ax N cx] 29)) := (Below.refl _ _).alloc (Nat.le_refl _) _
        have CX := Lib.hid (Q9.out _ u0.heap.size (hu0.trans (hbb.mono hu0.size)) (argR_of (c := cx) Y1 (by rw [HLX.out]; rfl) (HRx.out.on hbb) (by omega) (by omega) (by rw [sum_ofA]; omega) (by rw [HLX.out]; omega)))
        have hsb := hbb.size
        with_reducible refine CX.out.mono ?_
        rintro e v11 ⟨v, rfl, hO, hb⟩
        replace hb := hbb.trans (hb.mono hsb)
        obtain ⟨bm, cm, rfl, hI⟩ := hO.one'
        clear hO
        clear CX Y1 hbb hsb
        have hv11 := hu0.trans (hb.mono hu0.size)
        replace HRl := Lib.hid (HRl.out.on hb)
        replace HRx := Lib.hid (HRx.out.on hb)
        clear hb hu0
        have HRm := Lib.hid hI
        clear hI
        obtain ⟨km, -, -, gm, -, -, -⟩ := HRm.out.six'
        replace gm : v11.cell? ⟨bm, 2, none⟩ = some (.int .i64 M) := gm
        obtain ⟨b, o, rfl, hb5, hc5⟩ : ∃ b o, a5 = some ⟨b, o, none⟩ ∧ b < v11.heap.size ∧ ∀ j x, ls[j]? = some x → v11.cell? ⟨b, o + j, none⟩ = some (.int .i64 x) := by
          rcases HRl.out with h0 | h0
          · exact absurd (by rw [← HLN.out, h0]; rfl) hN0
          · exact h0
        have HC5 := Lib.hid hc5
        have hne : ls ≠ [] := by intro h0; exact hN0 (by rw [← HLN.out, h0]; rfl)
        have HMM := Lib.hid (HMX.out.1 hne)
        have i1 : ((N : Int) == 0) = false := beq_eq_false_iff_ne.2 (by omega)
        clear HRm HRx HRl hc5 hne HMX
        go_wp2_with fail
        go_loopg [25, 26] (N + 1) (fun m bb zz wr => ∃ (z : Nat) (t : Bool), z ≤ N ∧ m + z = N + 1 ∧ zz = .int .i64 (z : Int) ∧ bb = .bool t ∧ (M ∈ ls.take z → t = true) ∧ Below v11.heap.size v11 wr)
        case atStart => exact ⟨0, false, by omega, by omega, rfl, rfl, fun h => by simp at h, Below.refl _ _⟩
        case round =>
          obtain ⟨z, t, hz, hmz, rfl, rfl, ht, hwz⟩ := hrel
          have hz0 : (0 : Int) ≤ (z : Int) := Int.natCast_nonneg _
          have HT := Lib.hid ht
          clear ht
          by_cases hlz : z < N
          · have j0 : decide ((z : Int) < (N : Int)) = true := by simp; omega
            have j6 : (z : Int) < (N : Int) := by omega
            obtain ⟨xv, hjx⟩ : ∃ x, ls[z]? = some x := ⟨_, List.getElem?_eq_getElem (by rw [HLN.out]; exact hlz)⟩
            have hle := HMM.out.2 xv (List.mem_of_getElem? hjx)
            have u5 := (hwz.cell (p := ⟨b, o + z, none⟩) hb5).trans (HC5.out z xv hjx)
            have um := (hwz.cell (p := ⟨bm, 2, none⟩) km).trans gm
            have hlt : decide (M < xv) = false := by simp; omega
            have hmem : M ∈ ls.take (z + 1) → M ∈ ls.take z ∨ xv = M := fun h => by
              rw [List.take_add_one, hjx] at h
              simp at h
              rcases h with h | h
              · exact .inl h
              · exact .inr h.symm
            have HME := Lib.hid hmem
            have l5 := Nat.lt_of_lt_of_le hb5 hwz.size
            have lm := Nat.lt_of_lt_of_le km hwz.size
            clear hjx hmem
            go_wp2_with fail
            go_quiet (fail)
            have hb : Below wr.heap.size wr (wr.drewN nq) := ⟨rfl, rfl, rfl, Nat.le_refl _, fun _ _ => rfl⟩
            replace u5 := (hb.cell (p := ⟨b, o + z, none⟩) l5).trans u5
            replace um := (hb.cell (p := ⟨bm, 2, none⟩) lm).trans um
            have hw3 := hwz.trans (hb.mono hwz.size)
            generalize wr.drewN nq = u1 at *
            clear hb l5 lm
            cases t
            · by_cases hxm : xv = M
              · have e1 : (xv == M) = true := by simp [hxm]
                have e2 : decide (xv = M) = true := by simp [hxm]
                subst hxm
                go_wp2_with fail
                go_quiet (fail)
                have hb : Below u1.heap.size u1 (u1.drewN nq) := ⟨rfl, rfl, rfl, Nat.le_refl _, fun _ _ => rfl⟩
                have hw4 := hw3.trans (hb.mono hw3.size)
                generalize u1.drewN nq = u2 at *
                clear u5 um hb
                go_wp2_with fail
                go_roundg (gk - 1)
                case measure => omega
                case rel => exact ⟨z + 1, true, by omega, by omega, by go_num, rfl, fun _ => rfl, hw4⟩
              · have e1 : (xv == M) = false := beq_eq_false_iff_ne.2 hxm
                have e2 : decide (xv = M) = false := decide_eq_false hxm
                go_wp2_with fail
                go_quiet (fail)
                have hb : Below u1.heap.size u1 (u1.drewN nq) := ⟨rfl, rfl, rfl, Nat.le_refl _, fun _ _ => rfl⟩
                have hw4 := hw3.trans (hb.mono hw3.size)
                generalize u1.drewN nq = u2 at *
                clear u5 um hb
                go_wp2_with fail
                go_roundg (gk - 1)
                case measure => omega
                case rel => exact ⟨z + 1, false, by omega, by omega, by go_num, rfl, fun h => by rcases HME.out h with h | h; exact HT.out h; exact absurd h hxm, hw4⟩
            · go_wp2_with fail
              go_quiet (fail)
              have hb : Below u1.heap.size u1 (u1.drewN nq) := ⟨rfl, rfl, rfl, Nat.le_refl _, fun _ _ => rfl⟩
              have hw4 := hw3.trans (hb.mono hw3.size)
              generalize u1.drewN nq = u2 at *
              clear u5 um hb
              go_wp2_with fail
              go_roundg (gk - 1)
              case measure => omega
              case rel => exact ⟨z + 1, true, by omega, by omega, by go_num, rfl, fun _ => rfl, hw4⟩
          · have j0 : decide ((z : Int) < (N : Int)) = false := by simp; omega
            have hzt : t = true := HT.out (by rw [List.take_of_length_le (by rw [HLN.out]; omega)]; exact HMM.out.1)
            subst hzt
            have hw9 := hv11.trans (hwz.mono hv11.size)
            go_wp2_with fail
            go_returns
            exact ⟨rfl, hw9⟩
end Go.Proofs.YtfagfkfcokmclaaGreatDoor
