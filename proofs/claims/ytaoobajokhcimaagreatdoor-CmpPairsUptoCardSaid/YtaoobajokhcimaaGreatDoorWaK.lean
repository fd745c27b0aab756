/- Reading a number: whether it is nothing but digits. -/
import Derived.Test.YtaoobajokhcimaaGreatDoorWaB
import Derived.Test.YtaoobajokhcimaaGreatDoorShf
import Derived.Test.YtaoobajokhcimaaGreatDoorMgA
import Derived.Shelf.Strings.SlTrimAscii
import Derived.OpenShut
import Derived.Lib.SmallJoins
import Derived.Test.YtaoobajokhcimaaGreatDoorWaF
set_option linter.unusedSimpArgs false
set_option linter.unusedVariables false
namespace Go.Proofs.YtaoobajokhcimaaGreatDoor
open Go.RowKit

theorem ba_nil (l : List UInt8) : ((⟨l.toArray⟩ : ByteArray)).toList.isEmpty = l.isEmpty := by
  rw [Lib.toList_data]
theorem digits_any (s : ByteArray) (hs : s.size ≤ 9223372036854775807) (w : World) : Calls Tryz.prog 122 #[.string s] w fun e w' => e = .returned (.bool (s.data.toList.all isD)) ∧ Below w.heap.size w w' := by
  have CT := fun w => Any.strings_Trim_laid Tryz.lays160 (by kernel_rfl) s ⟨#[48, 49, 50, 51, 52, 53, 54, 55, 56, 57]⟩ w hs (by decide) (ascii_of_all (by decide))
  have hn : ((⟨(Lib.trimS s.data.toList tenS).toArray⟩ : ByteArray)).toList.isEmpty = s.data.toList.all isD := by
    rw [ba_nil]
    cases e : s.data.toList.all isD
    · cases h : Lib.trimS s.data.toList tenS with
      | nil =>
        have := (trimS_nil _).1 h
        rw [e] at this
        cases this
      | cons a l => rfl
    · rw [(trimS_nil _).2 e]
      rfl
  have CT2 := Lib.hid (show ∀ w, Calls Tryz.prog 96 #[.string s, .string ⟨#[48, 49, 50, 51, 52, 53, 54, 55, 56, 57]⟩] w fun e w' => e = .returned (.string ⟨(Lib.trimS s.data.toList tenS).toArray⟩) ∧ Below w.heap.size w w' from CT)
  clear CT
  obtain ⟨T, hT⟩ : ∃ T : ByteArray, T = ⟨(Lib.trimS s.data.toList tenS).toArray⟩ := ⟨_, rfl⟩
  rw [← hT] at CT2 hn
  have HN := Lib.hid hn
  clear hT hn
  go_enter Tryz.func122, Tryz.ntmps122
  go_wp2_with (go_at_call 96; with_reducible refine (CT2.out _).mono ?_; rintro e w1 ⟨rfl, hb⟩)
  go_ret
  exact ⟨by rw [← HN.out]; rfl, hb⟩

theorem ba_app (a b : List UInt8) : ((⟨a.toArray⟩ : ByteArray) ++ ⟨b.toArray⟩) = ⟨(a ++ b).toArray⟩ := by
  have h : ((⟨a.toArray⟩ : ByteArray) ++ ⟨b.toArray⟩).data = (a ++ b).toArray := by simp
  cases hh : ((⟨a.toArray⟩ : ByteArray) ++ ⟨b.toArray⟩)
  rw [hh] at h
  simp only at h
  rw [h]
theorem ba_take (a : List UInt8) (k : Nat) : (⟨a.toArray⟩ : ByteArray).extract 0 k = ⟨(a.take k).toArray⟩ := by
  have h : ((⟨a.toArray⟩ : ByteArray).extract 0 k).data = (a.take k).toArray := by simp
  cases hh : ((⟨a.toArray⟩ : ByteArray).extract 0 k)
  rw [hh] at h
  simp only at h
  rw [h]
theorem trimRB (l : List UInt8) : Lib.trimRightB l 48 = Lib.trimRightS l [48] := by
  unfold Lib.trimRightB Lib.trimRightS
  rw [show (fun x => [48].contains x) = (fun x : UInt8 => x == 48) from funext contains48]
theorem trimLB (l : List UInt8) : Lib.trimLeftB l 48 = Lib.trimLeftS l [48] := by
  unfold Lib.trimLeftB Lib.trimLeftS
  rw [show (fun x => [48].contains x) = (fun x : UInt8 => x == 48) from funext contains48]
theorem sign_len (l : List UInt8) : (signF l).2.length ≤ l.length := by
  cases l with
  | nil => simp [signF]
  | cons c r =>
    cases h1 : (c.toNat == 45) <;> cases h2 : (c.toNat == 43) <;> simp only [signF, h1, h2, if_true, if_false, Bool.false_eq_true, List.length_cons] <;> omega
set_option maxHeartbeats 8000000 in
theorem parse_any (s : ByteArray) (hs : s.size ≤ 2000000) (m : Int) (w : World) (hm : w.cell? ⟨4, 0, none⟩ = some (.int .i64 m)) : Calls Tryz.prog 95 #[.string s] w fun e w' =>
    e = .returned (.tuple #[.agg #[.int .i64 (parseF s.data.toList).1, .int .i64 (parseF s.data.toList).2.1], .int .i64 (parseF s.data.toList).2.2]) ∧ Below w.heap.size w w' := by
  have hg : 4 < w.heap.size := by
    rcases Nat.lt_or_ge 4 w.heap.size with h | h
    · exact h
    · simp [World.cell?, Array.getElem?_eq_none h] at hm
  have HM := Lib.hid (show ∀ o, (w.alloc o).cell? ⟨4, 0, none⟩ = some (.int .i64 m) from fun o => by rw [← hm]; exact (Below.alloc (Below.refl w.heap.size w) (Nat.le_refl _) o).cell (p := ⟨4, 0, none⟩) hg)
  obtain ⟨t1, t2, t3⟩ := trim_sign s.data.toList
  have hls : s.data.toList.length ≤ 2000000 := by rw [← Lib.size_eq]; exact hs
  have hbl := sign_len s.data.toList
  have hpf : parseF s.data.toList = if !((Lib.cut (signF s.data.toList).2 [46]).1.all isD && (Lib.cut (signF s.data.toList).2 [46]).2.1.all isD) || ((Lib.cut (signF s.data.toList).2 [46]).1 ++ (Lib.cut (signF s.data.toList).2 [46]).2.1) == [] then (0, 0, 12)
    else fitW (signF s.data.toList).1 (rv ((Lib.cut (signF s.data.toList).2 [46]).1 ++ (Lib.cut (signF s.data.toList).2 [46]).2.1)).toNat (Lib.cut (signF s.data.toList).2 [46]).2.1.length := rfl
  have CA := Lib.hid (fun w => Tryz.strings_TrimPrefix s ⟨#[45]⟩ w)
  have CB := Lib.hid (fun w => Tryz.strings_TrimPrefix s ⟨#[43]⟩ w)
  have t4 : (Lib.trimPrefix s.data.toList [45] == s.toList) = !(signF s.data.toList).1 := by
    rw [Lib.toList_data, ← t1, bne, Bool.not_not]
  generalize signF s.data.toList = sg at *
  obtain ⟨neg, body⟩ := sg
  simp only at t2 t3 t4 hbl hpf
  have CC := Lib.hid (fun w hm => Tryz.strings_Cut ⟨body.toArray⟩ ⟨#[46]⟩ m w (by have := Lib.size_eq ⟨body.toArray⟩; simp at this; omega) hm)
  have hcl : (Lib.cut body [46]).1.length ≤ body.length ∧ (Lib.cut body [46]).2.1.length ≤ body.length := by
    unfold Lib.cut
    split
    · simp; omega
    · simp
  simp only [List.toList_toArray] at CC
  generalize Lib.cut body [46] = cc at *
  obtain ⟨W, P, f⟩ := cc
  simp only at CC hcl hpf
  have DW := Lib.hid (fun w => digits_any ⟨W.toArray⟩ (by have := Lib.size_eq ⟨W.toArray⟩; simp at this; omega) w)
  have DP := Lib.hid (fun w => digits_any ⟨P.toArray⟩ (by have := Lib.size_eq ⟨P.toArray⟩; simp at this; omega) w)
  simp only [List.toList_toArray] at DW DP
  have HPF := Lib.hid hpf
  clear t1 hpf
  cases eW : W.all isD
  · rw [eW] at DW
    have hfin : parseF s.data.toList = (0, 0, 12) := by rw [HPF.out, eW]; rfl
    have HFIN := Lib.hid hfin
    clear hfin
    cases neg
    · simp only [t3 rfl] at CB
      simp only [Bool.not_false] at t4
      clear t2 t3
      generalize Lib.trimPrefix s.data.toList [45] = A at *
      go_enter Tryz.func95, Tryz.ntmps95
      go_wp2_with (first
        | (go_at_call 120; with_reducible refine (CA.out _).mono ?_; rintro e w1 ⟨rfl, rfl⟩)
        | (go_at_call 120; with_reducible refine (CB.out _).mono ?_; rintro e w1 ⟨rfl, rfl⟩)
        | (go_at_call 121; refine (CC.out _ (HM.out _)).mono ?_; rintro e w2 ⟨rfl, nn, rfl⟩)
        | (go_at_call 122; with_reducible refine (DW.out _).mono ?_; rintro e w3 ⟨rfl, hb⟩
           have C1 : Blk w3 w.heap.size #[.int .i64 0, .int .i64 0] 31 := Blk.below (show Blk ((w.alloc _).drewN nn) _ _ _ from Blk.here rfl rfl) hb (by simp)
           have hw3 : Below w.heap.size w w3 := Below.trans (below_drewN (show Below w.heap.size w (w.alloc _) by go_grown) nn) (hb.mono (by simp))
           obtain ⟨c0, c1, f0, f1⟩ := C1.two
           clear hb)
        | (go_at_call 122; with_reducible refine (DP.out _).mono ?_; rintro e w4 ⟨rfl, hb⟩
           have D1 := C1.below hb C1.lt
           have hw4 := hw3.trans (hb.mono hw3.size)
           clear c0 c1 f0 f1
           obtain ⟨c0, c1, f0, f1⟩ := D1.two
           clear hb))
      refine bodyPost_ret (v := .tuple #[.agg #[.int .i64 0, .int .i64 0], .int .i64 12]) (by simp [results, Tryz.results95, go_sem, c0, c1]) rfl ⟨by rw [HFIN.out], ?_⟩
      go_grown
      all_goals first | exact hw3 | exact hw3.size
    · simp only [t2 rfl] at CA t4
      simp only [Bool.not_true] at t4
      clear t2 t3
      go_enter Tryz.func95, Tryz.ntmps95
      go_wp2_with (first
        | (go_at_call 120; with_reducible refine (CA.out _).mono ?_; rintro e w1 ⟨rfl, rfl⟩)
        | (go_at_call 120; with_reducible refine (CB.out _).mono ?_; rintro e w1 ⟨rfl, rfl⟩)
        | (go_at_call 121; refine (CC.out _ (HM.out _)).mono ?_; rintro e w2 ⟨rfl, nn, rfl⟩)
        | (go_at_call 122; with_reducible refine (DW.out _).mono ?_; rintro e w3 ⟨rfl, hb⟩
           have C1 : Blk w3 w.heap.size #[.int .i64 0, .int .i64 0] 31 := Blk.below (show Blk ((w.alloc _).drewN nn) _ _ _ from Blk.here rfl rfl) hb (by simp)
           have hw3 : Below w.heap.size w w3 := Below.trans (below_drewN (show Below w.heap.size w (w.alloc _) by go_grown) nn) (hb.mono (by simp))
           obtain ⟨c0, c1, f0, f1⟩ := C1.two
           clear hb)
        | (go_at_call 122; with_reducible refine (DP.out _).mono ?_; rintro e w4 ⟨rfl, hb⟩
           have D1 := C1.below hb C1.lt
           have hw4 := hw3.trans (hb.mono hw3.size)
           clear c0 c1 f0 f1
           obtain ⟨c0, c1, f0, f1⟩ := D1.two
           clear hb))
      refine bodyPost_ret (v := .tuple #[.agg #[.int .i64 0, .int .i64 0], .int .i64 12]) (by simp [results, Tryz.results95, go_sem, c0, c1]) rfl ⟨by rw [HFIN.out], ?_⟩
      go_grown
      all_goals first | exact hw3 | exact hw3.size
  rw [eW] at DW
  cases eP : P.all isD
  · rw [eP] at DP
    have hfin : parseF s.data.toList = (0, 0, 12) := by rw [HPF.out, eW, eP]; rfl
    have HFIN := Lib.hid hfin
    clear hfin
    cases neg
    · simp only [t3 rfl] at CB
      simp only [Bool.not_false] at t4
      clear t2 t3
      generalize Lib.trimPrefix s.data.toList [45] = A at *
      go_enter Tryz.func95, Tryz.ntmps95
      go_wp2_with (first
        | (go_at_call 120; with_reducible refine (CA.out _).mono ?_; rintro e w1 ⟨rfl, rfl⟩)
        | (go_at_call 120; with_reducible refine (CB.out _).mono ?_; rintro e w1 ⟨rfl, rfl⟩)
        | (go_at_call 121; refine (CC.out _ (HM.out _)).mono ?_; rintro e w2 ⟨rfl, nn, rfl⟩)
        | (go_at_call 122; with_reducible refine (DW.out _).mono ?_; rintro e w3 ⟨rfl, hb⟩
           have C1 : Blk w3 w.heap.size #[.int .i64 0, .int .i64 0] 31 := Blk.below (show Blk ((w.alloc _).drewN nn) _ _ _ from Blk.here rfl rfl) hb (by simp)
           have hw3 : Below w.heap.size w w3 := Below.trans (below_drewN (show Below w.heap.size w (w.alloc _) by go_grown) nn) (hb.mono (by simp))
           obtain ⟨c0, c1, f0, f1⟩ := C1.two
           clear hb)
        | (go_at_call 122; with_reducible refine (DP.out _).mono ?_; rintro e w4 ⟨rfl, hb⟩
           have D1 := C1.below hb C1.lt
           have hw4 := hw3.trans (hb.mono hw3.size)
           clear c0 c1 f0 f1
           obtain ⟨c0, c1, f0, f1⟩ := D1.two
           clear hb))
      refine bodyPost_ret (v := .tuple #[.agg #[.int .i64 0, .int .i64 0], .int .i64 12]) (by simp [results, Tryz.results95, go_sem, c0, c1]) rfl ⟨by rw [HFIN.out], ?_⟩
      go_grown
      all_goals first | exact hw4 | exact hw4.size
    · simp only [t2 rfl] at CA t4
      simp only [Bool.not_true] at t4
      clear t2 t3
      go_enter Tryz.func95, Tryz.ntmps95
      go_wp2_with (first
        | (go_at_call 120; with_reducible refine (CA.out _).mono ?_; rintro e w1 ⟨rfl, rfl⟩)
        | (go_at_call 120; with_reducible refine (CB.out _).mono ?_; rintro e w1 ⟨rfl, rfl⟩)
        | (go_at_call 121; refine (CC.out _ (HM.out _)).mono ?_; rintro e w2 ⟨rfl, nn, rfl⟩)
        | (go_at_call 122; with_reducible refine (DW.out _).mono ?_; rintro e w3 ⟨rfl, hb⟩
           have C1 : Blk w3 w.heap.size #[.int .i64 0, .int .i64 0] 31 := Blk.below (show Blk ((w.alloc _).drewN nn) _ _ _ from Blk.here rfl rfl) hb (by simp)
           have hw3 : Below w.heap.size w w3 := Below.trans (below_drewN (show Below w.heap.size w (w.alloc _) by go_grown) nn) (hb.mono (by simp))
           obtain ⟨c0, c1, f0, f1⟩ := C1.two
           clear hb)
        | (go_at_call 122; with_reducible refine (DP.out _).mono ?_; rintro e w4 ⟨rfl, hb⟩
           have D1 := C1.below hb C1.lt
           have hw4 := hw3.trans (hb.mono hw3.size)
           clear c0 c1 f0 f1
           obtain ⟨c0, c1, f0, f1⟩ := D1.two
           clear hb))
      refine bodyPost_ret (v := .tuple #[.agg #[.int .i64 0, .int .i64 0], .int .i64 12]) (by simp [results, Tryz.results95, go_sem, c0, c1]) rfl ⟨by rw [HFIN.out], ?_⟩
      go_grown
      all_goals first | exact hw4 | exact hw4.size
  rw [eP] at DP
  have hWP : ((⟨W.toArray⟩ : ByteArray) ++ ⟨P.toArray⟩).toList.isEmpty = (W ++ P).isEmpty := by rw [ba_app, ba_nil]
  cases eE : (W ++ P).isEmpty
  · rw [eE] at hWP
    have h0 : ((W ++ P) == []) = false := by
      cases h : W ++ P with
      | nil => rw [h] at eE; cases eE
      | cons a l => rfl
    have hfp : parseF s.data.toList = if decide (18 < (Lib.trimLeftS (W ++ Lib.trimRightS (P.take 9) [48]) [48]).length) then (0, 0, 53)
      else fitW neg (rv (Lib.trimLeftS (W ++ Lib.trimRightS (P.take 9) [48]) [48])).toNat (Lib.trimRightS (P.take 9) [48]).length := by
      rw [HPF.out, eW, eP, h0]
      exact fit_parts neg W P eW eP
    have hP9 : (P.take 9).all isD = true := List.all_eq_true.2 fun x hx => List.all_eq_true.1 eP x (List.mem_of_mem_take hx)
    have TR := Lib.hid (fun w => Tryz.strings_TrimRight_one ⟨(P.take 9).toArray⟩ 48 (by decide) w (by have := Lib.size_eq ⟨(P.take 9).toArray⟩; simp at this; omega))
    simp only [List.toList_toArray, trimRB] at TR
    obtain ⟨jr, hr1, -⟩ := trimR_spec (P.take 9)
    have hPR : (Lib.trimRightS (P.take 9) [48]).all isD = true := by rw [hr1] at hP9; exact (all_app hP9).1
    have hPR9 : (Lib.trimRightS (P.take 9) [48]).length ≤ 9 := by
      have := congrArg List.length hr1
      rw [List.length_append, List.length_take] at this
      omega
    generalize Lib.trimRightS (P.take 9) [48] = PR at *
    have TL := Lib.hid (fun w => Tryz.strings_TrimLeft_one ⟨(W ++ PR).toArray⟩ 48 (by decide) w)
    simp only [List.toList_toArray, trimLB] at TL
    have eWR := ba_app W PR
    obtain ⟨jl, hl1, -⟩ := trimL_lead (W ++ PR)
    have hAL : (Lib.trimLeftS (W ++ PR) [48]).all isD = true := by
      have h : (W ++ PR).all isD = true := by rw [List.all_append, eW, hPR]; rfl
      rw [hl1] at h
      exact (all_app h).2
    have hALl : (Lib.trimLeftS (W ++ PR) [48]).length ≤ (W ++ PR).length := by
      have := congrArg List.length hl1
      simp only [List.length_append] at this ⊢
      omega
    generalize Lib.trimLeftS (W ++ PR) [48] = AL at *
    have HR1 := Lib.hid hr1
    have HL1 := Lib.hid hl1
    clear hr1 hl1 HPF
    -- too many digits, or not
    cases e18 : decide (18 < AL.length)
    · have h18 : AL.length ≤ 18 := by simp at e18; omega
      have f18 : ¬ (18 : Int) < (AL.length : Int) := by omega
      have hrn := rv_nonneg hAL
      have hrl := rv_lt hAL
      have hrm := pow_mono h18
      have p18 : (10 : Int) ^ 18 = 1000000000000000000 := by decide
      have AT := Lib.hid (show ∀ w, Calls Tryz.prog 125 #[.string ⟨(48 :: AL).toArray⟩] w fun e w' => e = .returned (.tuple #[.int .i64 (rv AL), .nilIface]) ∧ Below w.heap.size w w' from fun w =>
        (Tryz.strconv_Atoi_ok ⟨(48 :: AL).toArray⟩ (by have := Lib.size_eq ⟨(48 :: AL).toArray⟩; simp at this; omega) (rv AL) (by simpa using atoi_digits AL hAL h18) w).mono (by
          rintro e w' ⟨rfl, h⟩
          refine ⟨rfl, ?_⟩
          rcases h with rfl | ⟨t, rfl⟩
          · exact Below.refl _ _
          · exact Joins.below_bytesWorld _ _ _ _ (Nat.le_refl _)))
      have eAT : ((⟨#[48]⟩ : ByteArray) ++ ⟨AL.toArray⟩) = ⟨(48 :: AL).toArray⟩ := ba_app [48] AL
      have hfv : parseF s.data.toList = fitW neg (rv AL).toNat PR.length := by rw [hfp, e18]; rfl
      obtain ⟨R, hR⟩ : ∃ R, R = rv AL := ⟨_, rfl⟩
      rw [← hR] at AT hfv hrn hrl
      obtain ⟨N, hN⟩ : ∃ N, N = sgn neg R.toNat := ⟨_, rfl⟩
      have hN2 : N = if neg then -R else R := by
        rw [hN]; unfold sgn
        cases neg <;> simp <;> omega
      have bN : -1000000000000000000 ≤ N ∧ N ≤ 1000000000000000000 := by rw [hN2]; split <;> omega
      have hfz : parseF s.data.toList = fitW (decide (N < 0)) (N.natAbs * powN 0) PR.length := by
        rw [hfv, fitW_Z, ← hN, powN_zero, Nat.mul_one]
        rfl
      have WD := Lib.hid (fun w => widen_any N 0 (by omega) (by omega) (by omega) w)
      have WF := Lib.hid (fun w => fit_any (decide (N < 0)) (N.natAbs * powN 0) PR.length (by rw [powN_zero]; omega) (by omega) w)
      simp only [Int.natCast_zero] at WD
      obtain ⟨b9, hb9⟩ : ∃ b, b = decide (N < 0) := ⟨_, rfl⟩
      obtain ⟨m9, hm9⟩ : ∃ m, m = N.natAbs * powN 0 := ⟨_, rfl⟩
      rw [← hb9, ← hm9] at WD WF hfz
      obtain ⟨r, hr⟩ : ∃ r, r = fitW b9 m9 PR.length := ⟨_, rfl⟩
      rw [← hr] at WF hfz
      obtain ⟨r1, r2, r3⟩ := r
      have HFIN := Lib.hid hfz
      have gn : IntKind.i64.wrap (-R) = -R := IntWalk.i64_in _ (by omega)
      clear hfp hfv hfz hr hN hrl hrm p18 hR hb9 hm9 bN
      by_cases h9 : 9 < P.length
      · have f9 : (9 : Int) < (P.length : Int) := by omega
        have eX := ba_take P 9
        cases neg
        · simp only [Bool.false_eq_true, if_false] at hN2
          subst hN2
          simp only [t3 rfl] at CB
          simp only [Bool.not_false] at t4
          clear t2 t3
          generalize Lib.trimPrefix s.data.toList [45] = A at *
          go_enter Tryz.func95, Tryz.ntmps95
          go_wp2_with (first
            | (go_at_call 120; with_reducible refine (CA.out _).mono ?_; rintro e w1 ⟨rfl, rfl⟩)
            | (go_at_call 120; with_reducible refine (CB.out _).mono ?_; rintro e w1 ⟨rfl, rfl⟩)
            | (go_at_call 121; refine (CC.out _ (HM.out _)).mono ?_; rintro e w2 ⟨rfl, nn, rfl⟩)
            | (go_at_call 122; with_reducible refine (DW.out _).mono ?_; rintro e w3 ⟨rfl, hb⟩
               have C1 : Blk w3 w.heap.size #[.int .i64 0, .int .i64 0] 31 := Blk.below (show Blk ((w.alloc _).drewN nn) _ _ _ from Blk.here rfl rfl) hb (by simp)
               have hw3 : Below w.heap.size w w3 := Below.trans (below_drewN (show Below w.heap.size w (w.alloc _) by go_grown) nn) (hb.mono (by simp))
               obtain ⟨c0, c1, f0, f1⟩ := C1.two
               clear hb)
            | (go_at_call 122; with_reducible refine (DP.out _).mono ?_; rintro e w4 ⟨rfl, hb⟩
               have D1 := C1.below hb C1.lt
               have hw4 := hw3.trans (hb.mono hw3.size)
               clear c0 c1 f0 f1
               obtain ⟨c0, c1, f0, f1⟩ := D1.two
               clear hb)
            | (go_at_call 123; refine (TR.out _).mono ?_; rintro e w5 ⟨rfl, rfl⟩)
            | (go_at_call 124; try rw [eWR]
               refine (TL.out _).mono ?_; rintro e w6 ⟨rfl, rfl⟩)
            | (go_at_call 125; try rw [eAT]
               refine (AT.out _).mono ?_; rintro e w7 ⟨rfl, hb⟩
               have G1 := D1.below hb D1.lt
               have hw7 := hw4.trans (hb.mono hw4.size)
               clear c0 c1 f0 f1
               obtain ⟨c0, c1, f0, f1⟩ := G1.two
               clear hb)
            | (go_at_call 74; refine (WD.out _).mono ?_; rintro e w8 ⟨rfl, hb⟩
               have H1 := G1.below hb G1.lt
               have hw8 := hw7.trans (hb.mono hw7.size)
               clear c0 c1 f0 f1
               clear hb)
            | (go_at_call 47; refine (WF.out _).mono ?_; rintro e w9 ⟨rfl, hb⟩
               have I1 := H1.below hb H1.lt
               have hw9 := hw8.trans (hb.mono hw8.size)
               obtain ⟨c0, c1, f0, f1⟩ := I1.two
               clear hb))
          refine bodyPost_ret (v := .tuple #[.agg #[.int .i64 r1, .int .i64 r2], .int .i64 r3]) (by simp [results, Tryz.results95, go_sem, c0, c1]) rfl ⟨by rw [HFIN.out], ?_⟩
          go_grown
          all_goals first | exact hw9 | exact hw9.size
        · simp only [if_true] at hN2
          subst hN2
          simp only [t2 rfl] at CA t4
          simp only [Bool.not_true] at t4
          clear t2 t3
          go_enter Tryz.func95, Tryz.ntmps95
          go_wp2_with (first
            | (go_at_call 120; with_reducible refine (CA.out _).mono ?_; rintro e w1 ⟨rfl, rfl⟩)
            | (go_at_call 120; with_reducible refine (CB.out _).mono ?_; rintro e w1 ⟨rfl, rfl⟩)
            | (go_at_call 121; refine (CC.out _ (HM.out _)).mono ?_; rintro e w2 ⟨rfl, nn, rfl⟩)
            | (go_at_call 122; with_reducible refine (DW.out _).mono ?_; rintro e w3 ⟨rfl, hb⟩
               have C1 : Blk w3 w.heap.size #[.int .i64 0, .int .i64 0] 31 := Blk.below (show Blk ((w.alloc _).drewN nn) _ _ _ from Blk.here rfl rfl) hb (by simp)
               have hw3 : Below w.heap.size w w3 := Below.trans (below_drewN (show Below w.heap.size w (w.alloc _) by go_grown) nn) (hb.mono (by simp))
               obtain ⟨c0, c1, f0, f1⟩ := C1.two
               clear hb)
            | (go_at_call 122; with_reducible refine (DP.out _).mono ?_; rintro e w4 ⟨rfl, hb⟩
               have D1 := C1.below hb C1.lt
               have hw4 := hw3.trans (hb.mono hw3.size)
               clear c0 c1 f0 f1
               obtain ⟨c0, c1, f0, f1⟩ := D1.two
               clear hb)
            | (go_at_call 123; refine (TR.out _).mono ?_; rintro e w5 ⟨rfl, rfl⟩)
            | (go_at_call 124; try rw [eWR]
               refine (TL.out _).mono ?_; rintro e w6 ⟨rfl, rfl⟩)
            | (go_at_call 125; try rw [eAT]
               refine (AT.out _).mono ?_; rintro e w7 ⟨rfl, hb⟩
               have G1 := D1.below hb D1.lt
               have hw7 := hw4.trans (hb.mono hw4.size)
               clear c0 c1 f0 f1
               obtain ⟨c0, c1, f0, f1⟩ := G1.two
               clear hb)
            | (go_at_call 74; refine (WD.out _).mono ?_; rintro e w8 ⟨rfl, hb⟩
               have H1 := G1.below hb G1.lt
               have hw8 := hw7.trans (hb.mono hw7.size)
               clear c0 c1 f0 f1
               clear hb)
            | (go_at_call 47; refine (WF.out _).mono ?_; rintro e w9 ⟨rfl, hb⟩
               have I1 := H1.below hb H1.lt
               have hw9 := hw8.trans (hb.mono hw8.size)
               obtain ⟨c0, c1, f0, f1⟩ := I1.two
               clear hb))
          refine bodyPost_ret (v := .tuple #[.agg #[.int .i64 r1, .int .i64 r2], .int .i64 r3]) (by simp [results, Tryz.results95, go_sem, c0, c1]) rfl ⟨by rw [HFIN.out], ?_⟩
          go_grown
          all_goals first | exact hw9 | exact hw9.size
      · have f9 : ¬ (9 : Int) < (P.length : Int) := by omega
        simp only [List.take_of_length_le (show P.length ≤ 9 by omega)] at TR
        cases neg
        · simp only [Bool.false_eq_true, if_false] at hN2
          subst hN2
          simp only [t3 rfl] at CB
          simp only [Bool.not_false] at t4
          clear t2 t3
          generalize Lib.trimPrefix s.data.toList [45] = A at *
          go_enter Tryz.func95, Tryz.ntmps95
          go_wp2_with (first
            | (go_at_call 120; with_reducible refine (CA.out _).mono ?_; rintro e w1 ⟨rfl, rfl⟩)
            | (go_at_call 120; with_reducible refine (CB.out _).mono ?_; rintro e w1 ⟨rfl, rfl⟩)
            | (go_at_call 121; refine (CC.out _ (HM.out _)).mono ?_; rintro e w2 ⟨rfl, nn, rfl⟩)
            | (go_at_call 122; with_reducible refine (DW.out _).mono ?_; rintro e w3 ⟨rfl, hb⟩
               have C1 : Blk w3 w.heap.size #[.int .i64 0, .int .i64 0] 31 := Blk.below (show Blk ((w.alloc _).drewN nn) _ _ _ from Blk.here rfl rfl) hb (by simp)
               have hw3 : Below w.heap.size w w3 := Below.trans (below_drewN (show Below w.heap.size w (w.alloc _) by go_grown) nn) (hb.mono (by simp))
               obtain ⟨c0, c1, f0, f1⟩ := C1.two
               clear hb)
            | (go_at_call 122; with_reducible refine (DP.out _).mono ?_; rintro e w4 ⟨rfl, hb⟩
               have D1 := C1.below hb C1.lt
               have hw4 := hw3.trans (hb.mono hw3.size)
               clear c0 c1 f0 f1
               obtain ⟨c0, c1, f0, f1⟩ := D1.two
               clear hb)
            | (go_at_call 123; refine (TR.out _).mono ?_; rintro e w5 ⟨rfl, rfl⟩)
            | (go_at_call 124; try rw [eWR]
               refine (TL.out _).mono ?_; rintro e w6 ⟨rfl, rfl⟩)
            | (go_at_call 125; try rw [eAT]
               refine (AT.out _).mono ?_; rintro e w7 ⟨rfl, hb⟩
               have G1 := D1.below hb D1.lt
               have hw7 := hw4.trans (hb.mono hw4.size)
               clear c0 c1 f0 f1
               obtain ⟨c0, c1, f0, f1⟩ := G1.two
               clear hb)
            | (go_at_call 74; refine (WD.out _).mono ?_; rintro e w8 ⟨rfl, hb⟩
               have H1 := G1.below hb G1.lt
               have hw8 := hw7.trans (hb.mono hw7.size)
               clear c0 c1 f0 f1
               clear hb)
            | (go_at_call 47; refine (WF.out _).mono ?_; rintro e w9 ⟨rfl, hb⟩
               have I1 := H1.below hb H1.lt
               have hw9 := hw8.trans (hb.mono hw8.size)
               obtain ⟨c0, c1, f0, f1⟩ := I1.two
               clear hb))
          refine bodyPost_ret (v := .tuple #[.agg #[.int .i64 r1, .int .i64 r2], .int .i64 r3]) (by simp [results, Tryz.results95, go_sem, c0, c1]) rfl ⟨by rw [HFIN.out], ?_⟩
          go_grown
          all_goals first | exact hw9 | exact hw9.size
        · simp only [if_true] at hN2
          subst hN2
          simp only [t2 rfl] at CA t4
          simp only [Bool.not_true] at t4
          clear t2 t3
          go_enter Tryz.func95, Tryz.ntmps95
          go_wp2_with (first
            | (go_at_call 120; with_reducible refine (CA.out _).mono ?_; rintro e w1 ⟨rfl, rfl⟩)
            | (go_at_call 120; with_reducible refine (CB.out _).mono ?_; rintro e w1 ⟨rfl, rfl⟩)
            | (go_at_call 121; refine (CC.out _ (HM.out _)).mono ?_; rintro e w2 ⟨rfl, nn, rfl⟩)
            | (go_at_call 122; with_reducible refine (DW.out _).mono ?_; rintro e w3 ⟨rfl, hb⟩
               have C1 : Blk w3 w.heap.size #[.int .i64 0, .int .i64 0] 31 := Blk.below (show Blk ((w.alloc _).drewN nn) _ _ _ from Blk.here rfl rfl) hb (by simp)
               have hw3 : Below w.heap.size w w3 := Below.trans (below_drewN (show Below w.heap.size w (w.alloc _) by go_grown) nn) (hb.mono (by simp))
               obtain ⟨c0, c1, f0, f1⟩ := C1.two
               clear hb)
            | (go_at_call 122; with_reducible refine (DP.out _).mono ?_; rintro e w4 ⟨rfl, hb⟩
               have D1 := C1.below hb C1.lt
               have hw4 := hw3.trans (hb.mono hw3.size)
               clear c0 c1 f0 f1
               obtain ⟨c0, c1, f0, f1⟩ := D1.two
               clear hb)
            | (go_at_call 123; refine (TR.out _).mono ?_; rintro e w5 ⟨rfl, rfl⟩)
            | (go_at_call 124; try rw [eWR]
               refine (TL.out _).mono ?_; rintro e w6 ⟨rfl, rfl⟩)
            | (go_at_call 125; try rw [eAT]
               refine (AT.out _).mono ?_; rintro e w7 ⟨rfl, hb⟩
               have G1 := D1.below hb D1.lt
               have hw7 := hw4.trans (hb.mono hw4.size)
               clear c0 c1 f0 f1
               obtain ⟨c0, c1, f0, f1⟩ := G1.two
               clear hb)
            | (go_at_call 74; refine (WD.out _).mono ?_; rintro e w8 ⟨rfl, hb⟩
               have H1 := G1.below hb G1.lt
               have hw8 := hw7.trans (hb.mono hw7.size)
               clear c0 c1 f0 f1
               clear hb)
            | (go_at_call 47; refine (WF.out _).mono ?_; rintro e w9 ⟨rfl, hb⟩
               have I1 := H1.below hb H1.lt
               have hw9 := hw8.trans (hb.mono hw8.size)
               obtain ⟨c0, c1, f0, f1⟩ := I1.two
               clear hb))
          refine bodyPost_ret (v := .tuple #[.agg #[.int .i64 r1, .int .i64 r2], .int .i64 r3]) (by simp [results, Tryz.results95, go_sem, c0, c1]) rfl ⟨by rw [HFIN.out], ?_⟩
          go_grown
          all_goals first | exact hw9 | exact hw9.size
    · have HFIN := Lib.hid (show parseF s.data.toList = (0, 0, 53) by rw [hfp, e18]; rfl)
      have f18 : (18 : Int) < (AL.length : Int) := by simp at e18; omega
      clear hfp
      by_cases h9 : 9 < P.length
      · have f9 : (9 : Int) < (P.length : Int) := by omega
        have eX := ba_take P 9
        cases neg
        · simp only [t3 rfl] at CB
          simp only [Bool.not_false] at t4
          clear t2 t3
          generalize Lib.trimPrefix s.data.toList [45] = A at *
          go_enter Tryz.func95, Tryz.ntmps95
          go_wp2_with (first
            | (go_at_call 120; with_reducible refine (CA.out _).mono ?_; rintro e w1 ⟨rfl, rfl⟩)
            | (go_at_call 120; with_reducible refine (CB.out _).mono ?_; rintro e w1 ⟨rfl, rfl⟩)
            | (go_at_call 121; refine (CC.out _ (HM.out _)).mono ?_; rintro e w2 ⟨rfl, nn, rfl⟩)
            | (go_at_call 122; with_reducible refine (DW.out _).mono ?_; rintro e w3 ⟨rfl, hb⟩
               have C1 : Blk w3 w.heap.size #[.int .i64 0, .int .i64 0] 31 := Blk.below (show Blk ((w.alloc _).drewN nn) _ _ _ from Blk.here rfl rfl) hb (by simp)
               have hw3 : Below w.heap.size w w3 := Below.trans (below_drewN (show Below w.heap.size w (w.alloc _) by go_grown) nn) (hb.mono (by simp))
               obtain ⟨c0, c1, f0, f1⟩ := C1.two
               clear hb)
            | (go_at_call 122; with_reducible refine (DP.out _).mono ?_; rintro e w4 ⟨rfl, hb⟩
               have D1 := C1.below hb C1.lt
               have hw4 := hw3.trans (hb.mono hw3.size)
               clear c0 c1 f0 f1
               obtain ⟨c0, c1, f0, f1⟩ := D1.two
               clear hb)
            | (go_at_call 123; refine (TR.out _).mono ?_; rintro e w5 ⟨rfl, rfl⟩)
            | (go_at_call 124; try rw [eWR]
               refine (TL.out _).mono ?_; rintro e w6 ⟨rfl, rfl⟩)
            | (go_at_call 125; try rw [eAT]
               refine (AT.out _).mono ?_; rintro e w7 ⟨rfl, hb⟩
               have G1 := D1.below hb D1.lt
               have hw7 := hw4.trans (hb.mono hw4.size)
               clear c0 c1 f0 f1
               obtain ⟨c0, c1, f0, f1⟩ := G1.two
               clear hb)
            | (go_at_call 74; refine (WD.out _).mono ?_; rintro e w8 ⟨rfl, hb⟩
               have H1 := G1.below hb G1.lt
               have hw8 := hw7.trans (hb.mono hw7.size)
               clear c0 c1 f0 f1
               clear hb)
            | (go_at_call 47; refine (WF.out _).mono ?_; rintro e w9 ⟨rfl, hb⟩
               have I1 := H1.below hb H1.lt
               have hw9 := hw8.trans (hb.mono hw8.size)
               obtain ⟨c0, c1, f0, f1⟩ := I1.two
               clear hb))
          refine bodyPost_ret (v := .tuple #[.agg #[.int .i64 0, .int .i64 0], .int .i64 53]) (by simp [results, Tryz.results95, go_sem, c0, c1]) rfl ⟨by rw [HFIN.out], ?_⟩
          go_grown
          all_goals first | exact hw4 | exact hw4.size
        · simp only [t2 rfl] at CA t4
          simp only [Bool.not_true] at t4
          clear t2 t3
          go_enter Tryz.func95, Tryz.ntmps95
          go_wp2_with (first
            | (go_at_call 120; with_reducible refine (CA.out _).mono ?_; rintro e w1 ⟨rfl, rfl⟩)
            | (go_at_call 120; with_reducible refine (CB.out _).mono ?_; rintro e w1 ⟨rfl, rfl⟩)
            | (go_at_call 121; refine (CC.out _ (HM.out _)).mono ?_; rintro e w2 ⟨rfl, nn, rfl⟩)
            | (go_at_call 122; with_reducible refine (DW.out _).mono ?_; rintro e w3 ⟨rfl, hb⟩
               have C1 : Blk w3 w.heap.size #[.int .i64 0, .int .i64 0] 31 := Blk.below (show Blk ((w.alloc _).drewN nn) _ _ _ from Blk.here rfl rfl) hb (by simp)
               have hw3 : Below w.heap.size w w3 := Below.trans (below_drewN (show Below w.heap.size w (w.alloc _) by go_grown) nn) (hb.mono (by simp))
               obtain ⟨c0, c1, f0, f1⟩ := C1.two
               clear hb)
            | (go_at_call 122; with_reducible refine (DP.out _).mono ?_; rintro e w4 ⟨rfl, hb⟩
               have D1 := C1.below hb C1.lt
               have hw4 := hw3.trans (hb.mono hw3.size)
               clear c0 c1 f0 f1
               obtain ⟨c0, c1, f0, f1⟩ := D1.two
               clear hb)
            | (go_at_call 123; refine (TR.out _).mono ?_; rintro e w5 ⟨rfl, rfl⟩)
            | (go_at_call 124; try rw [eWR]
               refine (TL.out _).mono ?_; rintro e w6 ⟨rfl, rfl⟩)
            | (go_at_call 125; try rw [eAT]
               refine (AT.out _).mono ?_; rintro e w7 ⟨rfl, hb⟩
               have G1 := D1.below hb D1.lt
               have hw7 := hw4.trans (hb.mono hw4.size)
               clear c0 c1 f0 f1
               obtain ⟨c0, c1, f0, f1⟩ := G1.two
               clear hb)
            | (go_at_call 74; refine (WD.out _).mono ?_; rintro e w8 ⟨rfl, hb⟩
               have H1 := G1.below hb G1.lt
               have hw8 := hw7.trans (hb.mono hw7.size)
               clear c0 c1 f0 f1
               clear hb)
            | (go_at_call 47; refine (WF.out _).mono ?_; rintro e w9 ⟨rfl, hb⟩
               have I1 := H1.below hb H1.lt
               have hw9 := hw8.trans (hb.mono hw8.size)
               obtain ⟨c0, c1, f0, f1⟩ := I1.two
               clear hb))
          refine bodyPost_ret (v := .tuple #[.agg #[.int .i64 0, .int .i64 0], .int .i64 53]) (by simp [results, Tryz.results95, go_sem, c0, c1]) rfl ⟨by rw [HFIN.out], ?_⟩
          go_grown
          all_goals first | exact hw4 | exact hw4.size
      · have f9 : ¬ (9 : Int) < (P.length : Int) := by omega
        simp only [List.take_of_length_le (show P.length ≤ 9 by omega)] at TR
        cases neg
        · simp only [t3 rfl] at CB
          simp only [Bool.not_false] at t4
          clear t2 t3
          generalize Lib.trimPrefix s.data.toList [45] = A at *
          go_enter Tryz.func95, Tryz.ntmps95
          go_wp2_with (first
            | (go_at_call 120; with_reducible refine (CA.out _).mono ?_; rintro e w1 ⟨rfl, rfl⟩)
            | (go_at_call 120; with_reducible refine (CB.out _).mono ?_; rintro e w1 ⟨rfl, rfl⟩)
            | (go_at_call 121; refine (CC.out _ (HM.out _)).mono ?_; rintro e w2 ⟨rfl, nn, rfl⟩)
            | (go_at_call 122; with_reducible refine (DW.out _).mono ?_; rintro e w3 ⟨rfl, hb⟩
               have C1 : Blk w3 w.heap.size #[.int .i64 0, .int .i64 0] 31 := Blk.below (show Blk ((w.alloc _).drewN nn) _ _ _ from Blk.here rfl rfl) hb (by simp)
               have hw3 : Below w.heap.size w w3 := Below.trans (below_drewN (show Below w.heap.size w (w.alloc _) by go_grown) nn) (hb.mono (by simp))
               obtain ⟨c0, c1, f0, f1⟩ := C1.two
               clear hb)
            | (go_at_call 122; with_reducible refine (DP.out _).mono ?_; rintro e w4 ⟨rfl, hb⟩
               have D1 := C1.below hb C1.lt
               have hw4 := hw3.trans (hb.mono hw3.size)
               clear c0 c1 f0 f1
               obtain ⟨c0, c1, f0, f1⟩ := D1.two
               clear hb)
            | (go_at_call 123; refine (TR.out _).mono ?_; rintro e w5 ⟨rfl, rfl⟩)
            | (go_at_call 124; try rw [eWR]
               refine (TL.out _).mono ?_; rintro e w6 ⟨rfl, rfl⟩)
            | (go_at_call 125; try rw [eAT]
               refine (AT.out _).mono ?_; rintro e w7 ⟨rfl, hb⟩
               have G1 := D1.below hb D1.lt
               have hw7 := hw4.trans (hb.mono hw4.size)
               clear c0 c1 f0 f1
               obtain ⟨c0, c1, f0, f1⟩ := G1.two
               clear hb)
            | (go_at_call 74; refine (WD.out _).mono ?_; rintro e w8 ⟨rfl, hb⟩
               have H1 := G1.below hb G1.lt
               have hw8 := hw7.trans (hb.mono hw7.size)
               clear c0 c1 f0 f1
               clear hb)
            | (go_at_call 47; refine (WF.out _).mono ?_; rintro e w9 ⟨rfl, hb⟩
               have I1 := H1.below hb H1.lt
               have hw9 := hw8.trans (hb.mono hw8.size)
               obtain ⟨c0, c1, f0, f1⟩ := I1.two
               clear hb))
          refine bodyPost_ret (v := .tuple #[.agg #[.int .i64 0, .int .i64 0], .int .i64 53]) (by simp [results, Tryz.results95, go_sem, c0, c1]) rfl ⟨by rw [HFIN.out], ?_⟩
          go_grown
          all_goals first | exact hw4 | exact hw4.size
        · simp only [t2 rfl] at CA t4
          simp only [Bool.not_true] at t4
          clear t2 t3
          go_enter Tryz.func95, Tryz.ntmps95
          go_wp2_with (first
            | (go_at_call 120; with_reducible refine (CA.out _).mono ?_; rintro e w1 ⟨rfl, rfl⟩)
            | (go_at_call 120; with_reducible refine (CB.out _).mono ?_; rintro e w1 ⟨rfl, rfl⟩)
            | (go_at_call 121; refine (CC.out _ (HM.out _)).mono ?_; rintro e w2 ⟨rfl, nn, rfl⟩)
            | (go_at_call 122; with_reducible refine (DW.out _).mono ?_; rintro e w3 ⟨rfl, hb⟩
               have C1 : Blk w3 w.heap.size #[.int .i64 0, .int .i64 0] 31 := Blk.below (show Blk ((w.alloc _).drewN nn) _ _ _ from Blk.here rfl rfl) hb (by simp)
               have hw3 : Below w.heap.size w w3 := Below.trans (below_drewN (show Below w.heap.size w (w.alloc _) by go_grown) nn) (hb.mono (by simp))
               obtain ⟨c0, c1, f0, f1⟩ := C1.two
               clear hb)
            | (go_at_call 122; with_reducible refine (DP.out _).mono ?_; rintro e w4 ⟨rfl, hb⟩
               have D1 := C1.below hb C1.lt
               have hw4 := hw3.trans (hb.mono hw3.size)
               clear c0 c1 f0 f1
               obtain ⟨c0, c1, f0, f1⟩ := D1.two
               clear hb)
            | (go_at_call 123; refine (TR.out _).mono ?_; rintro e w5 ⟨rfl, rfl⟩)
            | (go_at_call 124; try rw [eWR]
               refine (TL.out _).mono ?_; rintro e w6 ⟨rfl, rfl⟩)
            | (go_at_call 125; try rw [eAT]
               refine (AT.out _).mono ?_; rintro e w7 ⟨rfl, hb⟩
               have G1 := D1.below hb D1.lt
               have hw7 := hw4.trans (hb.mono hw4.size)
               clear c0 c1 f0 f1
               obtain ⟨c0, c1, f0, f1⟩ := G1.two
               clear hb)
            | (go_at_call 74; refine (WD.out _).mono ?_; rintro e w8 ⟨rfl, hb⟩
               have H1 := G1.below hb G1.lt
               have hw8 := hw7.trans (hb.mono hw7.size)
               clear c0 c1 f0 f1
               clear hb)
            | (go_at_call 47; refine (WF.out _).mono ?_; rintro e w9 ⟨rfl, hb⟩
               have I1 := H1.below hb H1.lt
               have hw9 := hw8.trans (hb.mono hw8.size)
               obtain ⟨c0, c1, f0, f1⟩ := I1.two
               clear hb))
          refine bodyPost_ret (v := .tuple #[.agg #[.int .i64 0, .int .i64 0], .int .i64 53]) (by simp [results, Tryz.results95, go_sem, c0, c1]) rfl ⟨by rw [HFIN.out], ?_⟩
          go_grown
          all_goals first | exact hw4 | exact hw4.size
  · have hfin : parseF s.data.toList = (0, 0, 12) := by
      have h0 : W ++ P = [] := by simpa using eE
      rw [HPF.out, eW, eP, h0]
      rfl
    have HFIN := Lib.hid hfin
    clear hfin
    have eW0 : W = [] := by cases W with
      | nil => rfl
      | cons a l => simp at eE
    have eP0 : P = [] := by subst eW0; simpa using eE
    subst eW0 eP0
    rw [eE] at hWP
    cases neg
    · simp only [t3 rfl] at CB
      simp only [Bool.not_false] at t4
      clear t2 t3
      generalize Lib.trimPrefix s.data.toList [45] = A at *
      go_enter Tryz.func95, Tryz.ntmps95
      go_wp2_with (first
        | (go_at_call 120; with_reducible refine (CA.out _).mono ?_; rintro e w1 ⟨rfl, rfl⟩)
        | (go_at_call 120; with_reducible refine (CB.out _).mono ?_; rintro e w1 ⟨rfl, rfl⟩)
        | (go_at_call 121; refine (CC.out _ (HM.out _)).mono ?_; rintro e w2 ⟨rfl, nn, rfl⟩)
        | (go_at_call 122; with_reducible refine (DW.out _).mono ?_; rintro e w3 ⟨rfl, hb⟩
           have C1 : Blk w3 w.heap.size #[.int .i64 0, .int .i64 0] 31 := Blk.below (show Blk ((w.alloc _).drewN nn) _ _ _ from Blk.here rfl rfl) hb (by simp)
           have hw3 : Below w.heap.size w w3 := Below.trans (below_drewN (show Below w.heap.size w (w.alloc _) by go_grown) nn) (hb.mono (by simp))
           obtain ⟨c0, c1, f0, f1⟩ := C1.two
           clear hb)
        | (go_at_call 122; with_reducible refine (DP.out _).mono ?_; rintro e w4 ⟨rfl, hb⟩
           have D1 := C1.below hb C1.lt
           have hw4 := hw3.trans (hb.mono hw3.size)
           clear c0 c1 f0 f1
           obtain ⟨c0, c1, f0, f1⟩ := D1.two
           clear hb))
      refine bodyPost_ret (v := .tuple #[.agg #[.int .i64 0, .int .i64 0], .int .i64 12]) (by simp [results, Tryz.results95, go_sem, c0, c1]) rfl ⟨by rw [HFIN.out], ?_⟩
      go_grown
      all_goals first | exact hw4 | exact hw4.size
    · simp only [t2 rfl] at CA t4
      simp only [Bool.not_true] at t4
      clear t2 t3
      go_enter Tryz.func95, Tryz.ntmps95
      go_wp2_with (first
        | (go_at_call 120; with_reducible refine (CA.out _).mono ?_; rintro e w1 ⟨rfl, rfl⟩)
        | (go_at_call 120; with_reducible refine (CB.out _).mono ?_; rintro e w1 ⟨rfl, rfl⟩)
        | (go_at_call 121; refine (CC.out _ (HM.out _)).mono ?_; rintro e w2 ⟨rfl, nn, rfl⟩)
        | (go_at_call 122; with_reducible refine (DW.out _).mono ?_; rintro e w3 ⟨rfl, hb⟩
           have C1 : Blk w3 w.heap.size #[.int .i64 0, .int .i64 0] 31 := Blk.below (show Blk ((w.alloc _).drewN nn) _ _ _ from Blk.here rfl rfl) hb (by simp)
           have hw3 : Below w.heap.size w w3 := Below.trans (below_drewN (show Below w.heap.size w (w.alloc _) by go_grown) nn) (hb.mono (by simp))
           obtain ⟨c0, c1, f0, f1⟩ := C1.two
           clear hb)
        | (go_at_call 122; with_reducible refine (DP.out _).mono ?_; rintro e w4 ⟨rfl, hb⟩
           have D1 := C1.below hb C1.lt
           have hw4 := hw3.trans (hb.mono hw3.size)
           clear c0 c1 f0 f1
           obtain ⟨c0, c1, f0, f1⟩ := D1.two
           clear hb))
      refine bodyPost_ret (v := .tuple #[.agg #[.int .i64 0, .int .i64 0], .int .i64 12]) (by simp [results, Tryz.results95, go_sem, c0, c1]) rfl ⟨by rw [HFIN.out], ?_⟩
      go_grown
      all_goals first | exact hw4 | exact hw4.size
end Go.Proofs.YtaoobajokhcimaaGreatDoor
