/- The document's numbers: a value fitted. -/
import Derived.Test.YtgbghbeolndfiaaGreatDoorDiJ
set_option linter.unusedSimpArgs false
set_option linter.unusedVariables false
namespace Go.Proofs.YtgbghbeolndfiaaGreatDoor
open Go.RowKit

theorem irow_cons {w : World} {a : Option Addr} {n : Nat} {y : Int} {zs : List Int} (h : IRow w a n (y :: zs)) : ∃ b o, a = some ⟨b, o, none⟩ ∧ b < w.heap.size ∧ w.cell? ⟨b, o, none⟩ = some (.int .i64 y) ∧ IRow w (some ⟨b, o + 1, none⟩) zs.length zs := by
  obtain ⟨h1, h2, h3⟩ := h
  simp only [List.length_cons] at h1
  obtain ⟨b, o, rfl, hb, hc⟩ := h3 (by omega)
  refine ⟨b, o, rfl, hb, by simpa using hc 0 y rfl, rfl, by omega, fun hn => ⟨b, o + 1, rfl, hb, fun j x hx => ?_⟩⟩
  have := hc (j + 1) x (by simpa using hx)
  rw [show o + 1 + j = o + (j + 1) by omega]
  exact this
theorem drow_tail {w : World} {b o cc : Nat} {zs : List Int} (h : IRow w (some ⟨b, o + 1, none⟩) zs.length zs) (hc : zs.length + 1 ≤ cc) : DRow w 0 (.slice (some ⟨b, o + 1, none⟩) zs.length (cc - 1)) zs :=
  ⟨_, _, rfl, h, by omega, (fun h => by cases h), (fun _ _ _ _ => Nat.zero_le _)⟩
theorem drow_last {w : World} {b o : Nat} {zs : List Int} (hc : zs.length + 1 ≤ 1) : DRow w 0 (.slice (some ⟨b, o, none⟩) zs.length 0) zs := by
  have : zs = [] := List.length_eq_zero_iff.1 (by omega)
  subst this
  exact ⟨_, _, rfl, IRow.nil _ _, Nat.le_refl _, (fun h => by cases h), (fun _ _ _ _ => Nat.zero_le _)⟩
theorem fit_def (neg : Bool) (l : List Int) (s : Nat) (ys T : List Int) (t : Nat) (h : normL (l.drop (s - 9)) (min s 9) = (ys, t)) (hT : trimL ys = T) : fitD neg l s = if decide (18 < T.length) then (0, 0, false) else (if neg then -dval T else dval T, (t : Int), true) := by
  unfold fitD
  rw [h, hT]
set_option maxRecDepth 100000 in
set_option maxHeartbeats 8000000 in
theorem rfit_any (neg : Bool) (a : Option Addr) (c : Nat) (xs : List Int) (s : Nat) (w : World) (hI : IRow w a xs.length xs) (hck : xs.length ≤ c) (h0 : a = none → c = 0) (gx : Dg xs) (hl : xs.length ≤ 1000000) (hs : s ≤ 1000000) : Calls Tryz.prog 14 #[.agg #[.bool neg, .slice a xs.length c], .int .i64 (s : Int)] w fun e w' =>
    e = .returned (.tuple #[.int .i64 (fitD neg xs s).1, .int .i64 (fitD neg xs s).2.1, .bool (fitD neg xs s).2.2]) ∧ Below w.heap.size w w' := by
  have HI := Lib.hid hI
  have GX := Lib.hid gx
  have hfd := fun ys T t => fit_def neg xs s ys T t
  obtain ⟨r1, r2, r3, hr⟩ : ∃ r1 r2 r3, fitD neg xs s = (r1, r2, r3) := ⟨_, _, _, rfl⟩
  rw [hr]
  rw [hr] at hfd
  have HFD := Lib.hid hfd
  clear hI gx hfd hr
  obtain ⟨W, hW⟩ : ∃ W, W = w.alloc (.cells #[.bool neg, .slice a xs.length c] 37) := ⟨_, rfl⟩
  have E0 : Blk W w.heap.size #[.bool neg, .slice a xs.length c] 37 := by rw [hW]; exact Blk.here rfl rfl
  have hw : Below w.heap.size w W := by rw [hW]; go_grown
  have k0 : w.heap.size < W.heap.size := E0.lt
  have HE := Lib.hid E0
  have HW := Lib.hid hW
  clear E0 hW
  go_enter Tryz.func14, Tryz.ntmps14
  go_wp2_with fail
  go_loopg [1, 7] (s - 9) (fun m tv dv wr => ∃ (k : Nat) (ys : List Int), m + k = s - 9 ∧ tv = .int .i64 ((s - k : Nat) : Int) ∧ xs.drop k = ys ∧ DRow wr 0 dv ys ∧ wr = W)
  case atStart => exact ⟨0, xs, by omega, rfl, rfl, ⟨a, c, rfl, HI.out.below ((Below.refl _ _).alloc (Nat.le_refl _) _) (Nat.le_refl _), hck, h0, fun _ _ _ _ => Nat.zero_le _⟩, HW.out.symm⟩
  case round =>
    obtain ⟨k, ys, hmk, rfl, hys, hD, rfl⟩ := hrel
    obtain ⟨g, cc, rfl, hIk, hcc, hg0, -⟩ := hD
    have HIK := Lib.hid hIk
    have HYS := Lib.hid hys
    clear hIk hys
    by_cases hk : 9 < s - k
    · have i1 : decide ((9 : Int) < ((s - k : Nat) : Int)) = true := by simp; omega
      have j1 : IntKind.i64.wrap (((s - k : Nat) : Int) - 1) = ((s - (k + 1) : Nat) : Int) := by rw [IntWalk.i64_in _ (by omega)]; omega
      have hsk : s - k < 9223372036854775807 := by omega
      cases ys with
      | nil =>
        go_wp2_with fail
        go_roundg (gk - 1)
        case measure => omega
        case rel =>
          refine ⟨k + 1, [], by omega, by first | rfl | go_num, ?_, ⟨g, cc, rfl, HIK.out, by simp, hg0, fun h => by simp at h⟩, rfl⟩
          have := HYS.out
          rw [← List.drop_drop, this]
          rfl
      | cons y zs =>
        obtain ⟨b, o, rfl, hb, y0, hIt⟩ := irow_cons HIK.out
        have HIT := Lib.hid hIt
        have hdr : xs.drop (k + 1) = zs := by rw [← List.drop_drop, HYS.out]; rfl
        have HDR := Lib.hid hdr
        simp only [List.length_cons] at hcc
        clear hIt hdr
        by_cases hc1 : cc = 1
        · subst hc1
          obtain rfl : zs = [] := List.length_eq_zero_iff.1 (by omega)
          go_wp2_with fail
          go_roundg (gk - 1)
          case measure => omega
          case rel => exact ⟨k + 1, [], by omega, by first | rfl | go_num, HDR.out, drow_last (zs := []) (Nat.le_refl 1), rfl⟩
        · have hc2 : ¬ cc - 1 = 0 := by omega
          go_wp2_with fail
          go_roundg (gk - 1)
          case measure => omega
          case rel => exact ⟨k + 1, zs, by omega, by first | rfl | go_num, HDR.out, drow_tail HIT.out hcc, rfl⟩
    · have i1 : decide ((9 : Int) < ((s - k : Nat) : Int)) = false := by simp; omega
      have hkm : s - k = min s 9 ∧ k = s - 9 := by omega
      have hyl : ys.length ≤ xs.length := by rw [← HYS.out]; simp
      have hgy : Dg ys := by rw [← HYS.out]; exact GX.out.drop k
      have hn0 : normL (xs.drop (s - 9)) (min s 9) = normL ys (s - k) := by rw [← hkm.2, HYS.out, hkm.1]
      obtain ⟨t0, ht0⟩ : ∃ t0, t0 = s - k := ⟨_, rfl⟩
      rw [← ht0] at hn0 i1
      have HN0 := Lib.hid hn0
      clear hn0
      have ht9 : t0 ≤ 9 := by omega
      have HGY := Lib.hid hgy
      simp only [← ht0]
      clear HYS hgy hkm hk hmk ht0
      go_wp2_with fail
      go_loopg [1, 7] t0 (fun m tv dv wt => ∃ (zs : List Int), m ≤ 9 ∧ tv = .int .i64 (m : Int) ∧ normL (xs.drop (s - 9)) (min s 9) = normL zs m ∧ Dg zs ∧ zs.length ≤ xs.length ∧ DRow wt 0 dv zs ∧ wt = wr)
      case atStart => exact ⟨ys, ht9, rfl, HN0.out, HGY.out, hyl, ⟨g, cc, rfl, HIK.out, hcc, hg0, fun _ _ _ _ => Nat.zero_le _⟩, rfl⟩
      case round =>
        obtain ⟨zs, hm9, rfl, hnl, hgz, hzl, hDz, rfl⟩ := hrel
        obtain ⟨g2, c2, rfl, hIz, hc2, hg2, -⟩ := hDz
        have HIZ := Lib.hid hIz
        have HGZ := Lib.hid hgz
        clear hIz hgz
        cases gk with
        | zero =>
          have HNZ := Lib.hid (show normL (xs.drop (s - 9)) (min s 9) = (zs, 0) from by rw [hnl, normL])
          clear hnl
          have TR := Lib.hid (trim_any g2 c2 zs wr HIZ.out hc2 hg2 (by omega))
          obtain ⟨tq1, tq2, tq3, -⟩ := trimL_spec (zs)
          have htr := trim_row HIZ.out
          have hgt := tq2 HGZ.out
          obtain ⟨T, hT⟩ : ∃ T, trimL (zs) = T := ⟨_, rfl⟩
          have hfin := HFD.out (zs) T 0 HNZ.out hT
          rw [hT] at TR htr hgt
          obtain ⟨htr1, htr2⟩ := htr
          have HFIN := Lib.hid hfin
          have HTR := Lib.hid htr1
          have HGT := Lib.hid hgt
          clear tq1 tq2 tq3 hT hfin htr1 hgt HFD
          cases e18 : decide ((18 : Int) < (T.length : Int))
          · have hT18 : ¬ 18 < T.length := by simp at e18; omega
            have hf := HFIN.out
            rw [if_neg (by simpa using hT18)] at hf
            obtain ⟨rfl, rfl, rfl⟩ : r1 = (if neg then -dval T else dval T) ∧ r2 = ((0 : Nat) : Int) ∧ r3 = true := by simpa only [Prod.mk.injEq] using hf
            clear hf HFIN
            have hv0 := dval_nonneg HGT.out
            have hv1 := dval_lt HGT.out
            have hv2 := pow_mono (show T.length ≤ 18 by omega)
            obtain ⟨V, hV⟩ : ∃ V, dval T = V := ⟨_, rfl⟩
            rw [hV] at hv0 hv1
            have hv3 : V < 1000000000000000000 := by omega
            have HVT := Lib.hid hV
            clear hV hv1 hv2
            go_wp2_with (go_at_call 37; with_reducible refine TR.out.mono ?_; rintro e w1 ⟨rfl, rfl⟩)
            go_loopg [8, 9] (T.length) (fun m nv iv wt => ∃ (n : Int), m ≤ T.length ∧ nv = .int .i64 n ∧ iv = .int .i64 ((m : Int) - 1) ∧ n = dval (T.drop m) ∧ wt = wr)
            case atStart => exact ⟨0, Nat.le_refl _, rfl, rfl, by rw [List.drop_length]; rfl, rfl⟩
            case round =>
              obtain ⟨n, hmT, rfl, rfl, hn, rfl⟩ := hrel
              cases gk with
              | zero =>
                rw [List.drop_zero, HVT.out] at hn
                subst hn
                have j5 : IntKind.i64.wrap (-n) = -n := IntWalk.i64_in _ (by omega)
                obtain ⟨c00, c01, f00, f01⟩ := HE.out.two
                cases neg
                · go_wp2_with fail
                  go_returns
                  exact ⟨by simp [HVT.out], hw⟩
                · go_wp2_with fail
                  go_returns
                  exact ⟨by simp [HVT.out], hw⟩
              | succ j =>
                obtain ⟨d, hd, -⟩ := at_lt T (show j < T.length by omega)
                obtain ⟨p, o', hpo, hpb, y9⟩ := irow_at HTR.out hd
                cases hpo
                have gd := HGT.out.at hd
                have hnn := dval_nonneg (HGT.out.drop (j + 1))
                have hn1 := dval_lt (HGT.out.drop (j + 1))
                rw [List.length_drop] at hn1
                have hn2 := pow_mono (show T.length - (j + 1) ≤ 17 by omega)
                rw [← hn] at hnn hn1
                have hn3 : n < 100000000000000000 := by omega
                have hnx : 10 * n + d = dval (T.drop j) := by rw [drop_at hd, dval, hn]; omega
                have j6 : IntKind.i64.wrap (10 * n) = 10 * n := IntWalk.i64_in _ (by omega)
                have j7 : IntKind.i64.wrap (10 * n + d) = 10 * n + d := IntWalk.i64_in _ (by omega)
                have j8 : IntKind.i64.wrap ((j : Int) - 1) = (j : Int) - 1 := IntWalk.i64_in _ (by omega)
                have i9 : ((j + 1 : Nat) : Int) - 1 = (j : Int) := by omega
                have hjT : j < T.length := by omega
                have HNX := Lib.hid hnx
                clear hn hn1 hn2 hnx hd
                go_wp2_with fail
                go_roundg j
                case measure => omega
                case rel => exact ⟨10 * n + d, by omega, rfl, by first | rfl | go_num, HNX.out, rfl⟩
          · have hT18 : 18 < T.length := by simp at e18; omega
            have hf := HFIN.out
            rw [if_pos (by simpa using hT18)] at hf
            obtain ⟨rfl, rfl, rfl⟩ : r1 = 0 ∧ r2 = 0 ∧ r3 = false := by simpa only [Prod.mk.injEq] using hf
            clear hf HFIN
            go_wp2_with (go_at_call 37; with_reducible refine TR.out.mono ?_; rintro e w1 ⟨rfl, rfl⟩)
            go_returns
            exact ⟨rfl, hw⟩
        | succ j =>
          have i3 : decide ((0 : Int) < ((j + 1 : Nat) : Int)) = true := by simp; try omega
          have j4 : IntKind.i64.wrap (((j + 1 : Nat) : Int) - 1) = (j : Int) := by rw [IntWalk.i64_in _ (by omega)]; omega
          cases zs with
          | nil =>
            rw [normL] at hnl
            have HNL := Lib.hid hnl
            clear hnl
            go_wp2_with fail
            go_roundg j
            case measure => omega
            case rel => exact ⟨[], by omega, by first | rfl | go_num, HNL.out, Dg.nil, by simp, ⟨g2, c2, rfl, HIZ.out, by simp, hg2, fun h => by simp at h⟩, rfl⟩
          | cons y r =>
            obtain ⟨b, o, rfl, hb, y0, hIt⟩ := irow_cons HIZ.out
            have HIT := Lib.hid hIt
            have hgr := HGZ.out.tail
            have HGR := Lib.hid hgr
            clear hIt hgr
            rw [normL] at hnl
            cases e0 : (y == 0)
            · rw [e0] at hnl
              have HNZ := Lib.hid (show normL (xs.drop (s - 9)) (min s 9) = (y :: r, j + 1) from hnl)
              clear hnl
              have TR := Lib.hid (trim_any (some ⟨b, o, none⟩) c2 (y :: r) wr HIZ.out hc2 hg2 (by omega))
              obtain ⟨tq1, tq2, tq3, -⟩ := trimL_spec (y :: r)
              have htr := trim_row HIZ.out
              have hgt := tq2 HGZ.out
              obtain ⟨T, hT⟩ : ∃ T, trimL (y :: r) = T := ⟨_, rfl⟩
              have hfin := HFD.out (y :: r) T (j + 1) HNZ.out hT
              rw [hT] at TR htr hgt
              obtain ⟨htr1, htr2⟩ := htr
              have HFIN := Lib.hid hfin
              have HTR := Lib.hid htr1
              have HGT := Lib.hid hgt
              simp only [List.length_cons] at TR
              clear tq1 tq2 tq3 hT hfin htr1 hgt HFD
              cases e18 : decide ((18 : Int) < (T.length : Int))
              · have hT18 : ¬ 18 < T.length := by simp at e18; omega
                have hf := HFIN.out
                rw [if_neg (by simpa using hT18)] at hf
                obtain ⟨rfl, rfl, rfl⟩ : r1 = (if neg then -dval T else dval T) ∧ r2 = (((j + 1) : Nat) : Int) ∧ r3 = true := by simpa only [Prod.mk.injEq] using hf
                clear hf HFIN
                have hv0 := dval_nonneg HGT.out
                have hv1 := dval_lt HGT.out
                have hv2 := pow_mono (show T.length ≤ 18 by omega)
                obtain ⟨V, hV⟩ : ∃ V, dval T = V := ⟨_, rfl⟩
                rw [hV] at hv0 hv1
                have hv3 : V < 1000000000000000000 := by omega
                have HVT := Lib.hid hV
                clear hV hv1 hv2
                go_wp2_with (go_at_call 37; refine TR.out.mono ?_; rintro e w1 ⟨rfl, rfl⟩)
                go_loopg [8, 9] (T.length) (fun m nv iv wt => ∃ (n : Int), m ≤ T.length ∧ nv = .int .i64 n ∧ iv = .int .i64 ((m : Int) - 1) ∧ n = dval (T.drop m) ∧ wt = wr)
                case atStart => exact ⟨0, Nat.le_refl _, rfl, rfl, by rw [List.drop_length]; rfl, rfl⟩
                case round =>
                  obtain ⟨n, hmT, rfl, rfl, hn, rfl⟩ := hrel
                  cases gk with
                  | zero =>
                    rw [List.drop_zero, HVT.out] at hn
                    subst hn
                    have j5 : IntKind.i64.wrap (-n) = -n := IntWalk.i64_in _ (by omega)
                    obtain ⟨c00, c01, f00, f01⟩ := HE.out.two
                    cases neg
                    · go_wp2_with fail
                      go_returns
                      exact ⟨by simp [HVT.out], hw⟩
                    · go_wp2_with fail
                      go_returns
                      exact ⟨by simp [HVT.out], hw⟩
                  | succ j =>
                    obtain ⟨d, hd, -⟩ := at_lt T (show j < T.length by omega)
                    obtain ⟨p, o', hpo, hpb, y9⟩ := irow_at HTR.out hd
                    cases hpo
                    have gd := HGT.out.at hd
                    have hnn := dval_nonneg (HGT.out.drop (j + 1))
                    have hn1 := dval_lt (HGT.out.drop (j + 1))
                    rw [List.length_drop] at hn1
                    have hn2 := pow_mono (show T.length - (j + 1) ≤ 17 by omega)
                    rw [← hn] at hnn hn1
                    have hn3 : n < 100000000000000000 := by omega
                    have hnx : 10 * n + d = dval (T.drop j) := by rw [drop_at hd, dval, hn]; omega
                    have j6 : IntKind.i64.wrap (10 * n) = 10 * n := IntWalk.i64_in _ (by omega)
                    have j7 : IntKind.i64.wrap (10 * n + d) = 10 * n + d := IntWalk.i64_in _ (by omega)
                    have j8 : IntKind.i64.wrap ((j : Int) - 1) = (j : Int) - 1 := IntWalk.i64_in _ (by omega)
                    have i9 : ((j + 1 : Nat) : Int) - 1 = (j : Int) := by omega
                    have hjT : j < T.length := by omega
                    have HNX := Lib.hid hnx
                    clear hn hn1 hn2 hnx hd
                    go_wp2_with fail
                    go_roundg j
                    case measure => omega
                    case rel => exact ⟨10 * n + d, by omega, rfl, by first | rfl | go_num, HNX.out, rfl⟩
              · have hT18 : 18 < T.length := by simp at e18; omega
                have hf := HFIN.out
                rw [if_pos (by simpa using hT18)] at hf
                obtain ⟨rfl, rfl, rfl⟩ : r1 = 0 ∧ r2 = 0 ∧ r3 = false := by simpa only [Prod.mk.injEq] using hf
                clear hf HFIN
                go_wp2_with (go_at_call 37; refine TR.out.mono ?_; rintro e w1 ⟨rfl, rfl⟩)
                go_returns
                exact ⟨rfl, hw⟩
            · rw [e0] at hnl
              simp only [if_true] at hnl
              have HNL := Lib.hid hnl
              simp only [List.length_cons] at hc2 hzl
              clear hnl
              by_cases hc1 : c2 = 1
              · subst hc1
                obtain rfl : r = [] := List.length_eq_zero_iff.1 (by omega)
                go_wp2_with fail
                go_roundg j
                case measure => omega
                case rel => exact ⟨[], by omega, by first | rfl | go_num, HNL.out, HGR.out, by simp, drow_last (zs := []) (Nat.le_refl 1), rfl⟩
              · have hc3 : ¬ c2 - 1 = 0 := by omega
                go_wp2_with fail
                go_roundg j
                case measure => omega
                case rel => exact ⟨r, by omega, by first | rfl | go_num, HNL.out, HGR.out, by omega, drow_tail HIT.out hc2, rfl⟩
end Go.Proofs.YtgbghbeolndfiaaGreatDoor
