/- CmpGenerals: the law's walk; its arguments. -/
import Derived.Test.YtaoobajokhcimaaGreatDoorCpH
import Derived.Test.YtaoobajokhcimaaGreatDoorCpJ
import Derived.Test.YtaoobajokhcimaaGreatDoorCpK
import Derived.Deep.QuietTactic
import Derived.BigQuiet
set_option linter.unusedSimpArgs false
set_option linter.unusedVariables false
set_option linter.constructorNameAsVariable false
namespace Go.Proofs.YtaoobajokhcimaaGreatDoor
open Go.ChangeShapes Go.WideShapes Go.ChangeAt Go.RowKit Go.Joins

theorem allRA {xs : List At} (h : xs.all rightA = true) : ∀ x ∈ xs, RA x := fun x hx => rightA_RA (List.all_eq_true.1 h x hx)
set_option maxRecDepth 100000 in
set_option maxHeartbeats 4000000 in
theorem generals_walk (op : Int) (a b : Option Addr) (c d : Nat) (xs ys : List At) (m : Int) (w : World) (hL : Laid m w) (hX : TRow w a xs) (hY : TRow w b ys) (hna : a = none → c = 0) (hnb : b = none → d = 0) (hl : xs.length ≤ 1048576) (hk : ys.length ≤ 1048576) (hs : ∀ x ∈ xs, x.t.size ≤ 2000000) (ht : ∀ x ∈ ys, x.t.size ≤ 2000000) : Calls Tryz.prog 7 #[.int .i64 op, .slice a xs.length c, .slice b ys.length d] w fun e w' => e = .returned (.bool true) ∧ Below w.heap.size w w' := by
  have CA := Lib.hid (fun w' (hb : Below w.heap.size w w') => awake4_any m w' (hL.on hb))
  have CR := Lib.hid (fun w' (hb : Below w.heap.size w w') => lright_any a c xs w' (hX.on hb) (by omega) hs)
  have CS := Lib.hid (fun w' (hb : Below w.heap.size w w') => lright_any b d ys w' (hY.on hb) (by omega) ht)
  cases l1 : decide ((100 : Int) < (xs.length : Int))
  · cases l2 : decide ((100 : Int) < (ys.length : Int))
    · cases hr : xs.all rightA
      · rw [hr] at CR
        clear hr hL hX hY hs ht CS
        go_enter Tryz.func7, Tryz.ntmps7
        go_wp2_with (first
          | (go_at_call 29; with_reducible refine (CA.out _ hw2).mono ?_; rintro e w3 ⟨rfl, hb⟩
             have hw3 := hw2.trans (hb.mono hw2.size)
             clear hb)
          | (go_at_call 29; with_reducible refine (CA.out _ (Below.refl _ _)).mono ?_; rintro e w1 ⟨rfl, hb⟩
             have hw1 := hb
             clear hb)
          | (go_at_call 30; with_reducible refine (CR.out _ hw1).mono ?_; rintro e w2 ⟨rfl, hb⟩
             have hw2 := hw1.trans (hb.mono hw1.size)
             clear hb))
        exact bodyPost_ret (v := .bool true) (by simp [results, Tryz.results7, go_sem]) rfl ⟨rfl, hw3⟩
      · cases hq : ys.all rightA
        · rw [hr] at CR
          rw [hq] at CS
          clear hr hq hL hX hY hs ht
          go_enter Tryz.func7, Tryz.ntmps7
          go_wp2_with (first
            | (go_at_call 29; with_reducible refine (CA.out _ hw3).mono ?_; rintro e w4 ⟨rfl, hb⟩
               have hw4 := hw3.trans (hb.mono hw3.size)
               clear hb)
            | (go_at_call 29; with_reducible refine (CA.out _ (Below.refl _ _)).mono ?_; rintro e w1 ⟨rfl, hb⟩
               have hw1 := hb
               clear hb)
            | (go_at_call 30; with_reducible refine (CR.out _ hw1).mono ?_; rintro e w2 ⟨rfl, hb⟩
               have hw2 := hw1.trans (hb.mono hw1.size)
               clear hb)
            | (go_at_call 30; with_reducible refine (CS.out _ hw2).mono ?_; rintro e w3 ⟨rfl, hb⟩
               have hw3 := hw2.trans (hb.mono hw2.size)
               clear hb))
          exact bodyPost_ret (v := .bool true) (by simp [results, Tryz.results7, go_sem]) rfl ⟨rfl, hw4⟩
        · rw [hr] at CR
          rw [hq] at CS
          have m1 : xs.length ≤ 100 := by simp at l1; omega
          have m2 : ys.length ≤ 100 := by simp at l2; omega
          have ra := allRA hr
          have rb := allRA hq
          have C1 := Lib.hid (fun a1 c1 a2 c2 w' (hb : Below w.heap.size w w') (h1 : TRow w' a1 xs) (h2 : TRow w' a2 ys) => general_any op a1 a2 c1 c2 xs ys m w' (hL.on hb) h1 h2 (by omega) (by omega) (fun x hx => ⟨ra x hx, hs x hx⟩) (fun x hx => ⟨rb x hx, ht x hx⟩))
          have C2 := Lib.hid (fun (hop : 0 ≤ op - 19 ∧ op - 19 ≤ 5) w' (hb : Below w.heap.size w w') => rgeneral_any (op - 19) hop a b c d xs ys w' (hX.on hb) (hY.on hb) (by omega) (by omega) (fun x hx => ⟨ra x hx, hs x hx⟩) (fun x hx => ⟨rb x hx, ht x hx⟩))
          have HX := Lib.hid hX
          have HY := Lib.hid hY
          obtain ⟨gv, gr, hg⟩ : ∃ gv gr, generalF op xs ys = (gv, gr) := ⟨_, _, rfl⟩
          rw [hg] at C1
          have HG := Lib.hid hg
          clear hr hq hL hX hY hs ht ra rb hg
          simp only at C1
          go_enter Tryz.func7, Tryz.ntmps7
          go_wp2_with (first
            | (go_at_call 29; with_reducible refine (CA.out _ (Below.refl _ _)).mono ?_; rintro e w1 ⟨rfl, hb⟩
               have hw1 := hb
               clear hb)
            | (go_at_call 30; with_reducible refine (CR.out _ hw1).mono ?_; rintro e w2 ⟨rfl, hb⟩
               have hw2 := hw1.trans (hb.mono hw1.size)
               clear hb)
            | (go_at_call 30; with_reducible refine (CS.out _ hw2).mono ?_; rintro e w3 ⟨rfl, hb⟩
               have hw3 := hw2.trans (hb.mono hw2.size)
               clear hb)
            | (at_builtin; refine wpList_appA rfl _ _ rfl w3.heap.size _ [] xs rfl ⟨rfl, .inr ⟨w3.heap.size, 0, #[], rfl, Nat.le_refl _, Blk.new _ _ _, Nat.le_refl _, by unfold maxLen; omega, rfl, rfl⟩⟩ _ _ rfl (HX.out.on (hw3.alloc hw3.size _)) hna (by simp; omega) (by simp) ?_))
          intro a1 c1 w4 hN hb4
          have hw4 : Below w.heap.size w w4 := (hw3.alloc hw3.size _).trans (hb4.mono hw3.size)
          clear hb4
          go_wp2_with (at_builtin; refine wpList_appA rfl _ _ rfl w4.heap.size _ [] ys rfl ⟨rfl, .inr ⟨w4.heap.size, 0, #[], rfl, Nat.le_refl _, Blk.new _ _ _, Nat.le_refl _, by unfold maxLen; omega, rfl, rfl⟩⟩ _ _ rfl (HY.out.on (hw4.alloc hw4.size _)) hnb (by simp; omega) (by simp) ?_)
          intro a2 c2 w5 hN2 hb5
          have hw5 : Below w.heap.size w w5 := (hw4.alloc hw4.size _).trans (hb5.mono hw4.size)
          have hN1 : TRow w5 a1 xs := TRow.on hN (((Below.refl _ _).alloc (Nat.le_refl _) _).trans hb5)
          have hN2 : TRow w5 a2 ys := hN2
          have k15 : w4.heap.size ≤ w5.heap.size := by have := hb5.size; simp at this; omega
          clear hb5 hN
          go_wp2_with (go_at_call 31; with_reducible refine (C1.out _ _ _ _ _ hw5 hN1 hN2).mono ?_; rintro e w6 ⟨rfl, hb⟩
                       have hw6 := hw5.trans (hb.mono hw5.size))
          have N1 := Lib.hid (hN1.on hb)
          clear hN1 hN2 hb C1
          go_loopg [11] (xs.length + 1) (fun m jj wr => ∃ j : Nat, j ≤ xs.length ∧ m + j = xs.length + 1 ∧ jj = .int .i64 (j : Int) ∧ Below w6.heap.size w6 wr)
          case atStart => exact ⟨0, by omega, by omega, rfl, Below.refl _ _⟩
          case round =>
            obtain ⟨j, hj, hmj, rfl, hbr⟩ := hrel
            have hj0 : (0 : Int) ≤ (j : Int) := Int.natCast_nonneg _
            have j3 : IntKind.i64.wrap ((j : Int) + 1) = (j : Int) + 1 := IntWalk.i64_in _ (by omega)
            have hwr := hw6.trans (hbr.mono hw6.size)
            by_cases hlt : j < xs.length
            · obtain ⟨x, hjx⟩ : ∃ x, xs[j]? = some x := ⟨xs[j], by simp [hlt]⟩
              rcases HX.out with h0 | ⟨b1, o1, rfl, hb1, hc1⟩
              · rw [h0] at hlt; simp at hlt
              rcases N1.out with h0 | ⟨b2, o2, rfl, hb2, hc2⟩
              · rw [h0] at hlt; simp at hlt
              obtain ⟨u0, u1, u2, u3, u4⟩ := hc1 j x hjx
              obtain ⟨v0, v1, v2, v3, v4⟩ := hc2 j x hjx
              clear hc1 hc2 hjx
              obtain ⟨k, n, s, t, bb⟩ := x
              simp only at u0 u1 u2 u3 u4 v0 v1 v2 v3 v4
              have i0 : decide ((j : Int) < (xs.length : Int)) = true := by simp; omega
              replace u0 := (hwr.cell (p := ⟨b1, o1 + j * 5, none⟩) hb1).trans u0
              replace u1 := (hwr.cell (p := ⟨b1, o1 + j * 5 + 1, none⟩) hb1).trans u1
              replace u2 := (hwr.cell (p := ⟨b1, o1 + j * 5 + 2, none⟩) hb1).trans u2
              replace u3 := (hwr.cell (p := ⟨b1, o1 + j * 5 + 3, none⟩) hb1).trans u3
              replace u4 := (hwr.cell (p := ⟨b1, o1 + j * 5 + 4, none⟩) hb1).trans u4
              replace v0 := (hbr.cell (p := ⟨b2, o2 + j * 5, none⟩) hb2).trans v0
              replace v1 := (hbr.cell (p := ⟨b2, o2 + j * 5 + 1, none⟩) hb2).trans v1
              replace v2 := (hbr.cell (p := ⟨b2, o2 + j * 5 + 2, none⟩) hb2).trans v2
              replace v3 := (hbr.cell (p := ⟨b2, o2 + j * 5 + 3, none⟩) hb2).trans v3
              replace v4 := (hbr.cell (p := ⟨b2, o2 + j * 5 + 4, none⟩) hb2).trans v4
              have lb1 := Nat.lt_of_lt_of_le hb1 hwr.size
              have lb2 := Nat.lt_of_lt_of_le hb2 hbr.size
              go_wp2_with fail
              go_quiet (fail)
              go_wp2_with fail
              go_roundg (gk - 1)
              case measure => omega
              case rel => exact ⟨j + 1, by omega, by omega, by go_num, below_drewN hbr nq⟩
            · have i0 : decide ((j : Int) < (xs.length : Int)) = false := by simp; omega
              have hgo := HG.out
              unfold generalF at hgo
              clear HX HY N1 HG CA CR CS
              cases q1 : decide (op < 19)
              · cases q2 : decide (24 < op)
                · rw [q1, q2] at hgo
                  have hgo : genF (op - 19 + 13) xs ys = (gv, gr) := hgo
                  have hC2 := C2.out (by simp at q1 q2; omega)
                  rw [hgo] at hC2
                  have C3 := Lib.hid hC2
                  have p1 : IntKind.i64.wrap (op - 19) = op - 19 := IntWalk.i64_in _ (by simp at q1 q2; omega)
                  clear hgo hC2 C2
                  cases gv
                  all_goals
                    go_wp2_with (go_at_call 32; with_reducible refine (C3.out _ hwr).mono ?_; rintro e w7 ⟨rfl, hb⟩
                                 have hw7 := hwr.trans (hb.mono hwr.size))
                    exact bodyPost_ret (v := .bool true) (by simp [results, Tryz.results7, go_sem]) rfl ⟨rfl, hw7⟩
                · rw [q1, q2] at hgo
                  obtain ⟨g1, g2⟩ := Prod.mk.inj (show ((false, 2) : Bool × Int) = (gv, gr) from hgo)
                  subst g1 g2
                  clear hgo C2
                  go_wp2_with fail
                  exact bodyPost_ret (v := .bool true) (by simp [results, Tryz.results7, go_sem]) rfl ⟨rfl, hwr⟩
              · rw [q1] at hgo
                obtain ⟨g1, g2⟩ := Prod.mk.inj (show ((false, 2) : Bool × Int) = (gv, gr) from hgo)
                subst g1 g2
                clear hgo C2
                go_wp2_with fail
                exact bodyPost_ret (v := .bool true) (by simp [results, Tryz.results7, go_sem]) rfl ⟨rfl, hwr⟩
    · clear hL hX hY hs ht CR CS
      go_enter Tryz.func7, Tryz.ntmps7
      go_wp2_with (first
        | (go_at_call 29; with_reducible refine (CA.out _ hw1).mono ?_; rintro e w2 ⟨rfl, hb⟩
           have hw2 := hw1.trans (hb.mono hw1.size)
           clear hb)
        | (go_at_call 29; with_reducible refine (CA.out _ (Below.refl _ _)).mono ?_; rintro e w1 ⟨rfl, hb⟩
           have hw1 := hb
           clear hb))
      exact bodyPost_ret (v := .bool true) (by simp [results, Tryz.results7, go_sem]) rfl ⟨rfl, hw2⟩
  · clear hL hX hY hs ht CR CS
    go_enter Tryz.func7, Tryz.ntmps7
    go_wp2_with (first
      | (go_at_call 29; with_reducible refine (CA.out _ hw1).mono ?_; rintro e w2 ⟨rfl, hb⟩
         have hw2 := hw1.trans (hb.mono hw1.size)
         clear hb)
      | (go_at_call 29; with_reducible refine (CA.out _ (Below.refl _ _)).mono ?_; rintro e w1 ⟨rfl, hb⟩
         have hw1 := hb
         clear hb))
    exact bodyPost_ret (v := .bool true) (by simp [results, Tryz.results7, go_sem]) rfl ⟨rfl, hw2⟩
end Go.Proofs.YtaoobajokhcimaaGreatDoor
