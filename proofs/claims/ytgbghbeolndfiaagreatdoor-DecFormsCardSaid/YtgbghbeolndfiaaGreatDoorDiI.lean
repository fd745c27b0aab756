/- The document's numbers: products of whole numbers. -/
import Derived.Test.YtgbghbeolndfiaaGreatDoorDiH
set_option linter.unusedSimpArgs false
set_option linter.unusedVariables false
namespace Go.Proofs.YtgbghbeolndfiaaGreatDoor
open Go.RowKit

theorem dval_snoc {xs : List Int} {j : Nat} {x : Int} (h : xs[j]? = some x) : dval (xs.take (j + 1)) = dval (xs.take j) + 10 ^ j * x := by
  have hj : j < xs.length := by
    rcases Nat.lt_or_ge j xs.length with h' | h'
    · exact h'
    · rw [List.getElem?_eq_none h'] at h; cases h
  rw [dval_take _ _ hj, getD_at h]
theorem mul_len {xs ys S : List Int} {i : Nat} {k : Int} (gx : Dg xs) (gy : Dg ys) (gs : Dg S) (ns : Nr S) (hi : i < xs.length) (h0 : 0 ≤ k) (h9 : k ≤ 9) (hv : dval S = (dval (xs.take i) + 10 ^ i * k) * dval ys) : S.length ≤ xs.length + ys.length := by
  refine len_le gs ns _ ?_
  rw [hv]
  have h1 := dval_lt (gx.take i)
  have h1' := dval_nonneg (gx.take i)
  rw [List.length_take, show min i xs.length = i by omega] at h1
  have h2 := dval_lt gy
  have h2' := dval_nonneg gy
  have h3 := pow_mono (show i + 1 ≤ xs.length by omega)
  have h4 := pow10_pos i
  have h5 := pow10_pos ys.length
  have h6 : dval (xs.take i) + 10 ^ i * k < 10 ^ (i + 1) := by
    have : (10 : Int) ^ i * k ≤ 10 ^ i * 9 := Int.mul_le_mul_of_nonneg_left h9 (by omega)
    rw [Int.pow_succ]
    omega
  have h7 : 0 ≤ dval (xs.take i) + 10 ^ i * k := by
    have : 0 ≤ (10 : Int) ^ i * k := Int.mul_nonneg (by omega) h0
    omega
  rw [Int.pow_add]
  calc (dval (xs.take i) + 10 ^ i * k) * dval ys ≤ (dval (xs.take i) + 10 ^ i * k) * 10 ^ ys.length := Int.mul_le_mul_of_nonneg_left (by omega) h7
    _ < 10 ^ xs.length * 10 ^ ys.length := Int.mul_lt_mul_of_pos_right (by omega) h5
set_option maxRecDepth 100000 in
set_option maxHeartbeats 8000000 in
theorem rmul_any (n1 n2 : Bool) (a b : Option Addr) (c d : Nat) (xs ys : List Int) (w : World) (hI : IRow w a xs.length xs) (hJ : IRow w b ys.length ys) (hd : ys.length ≤ d) (hb0 : b = none → d = 0) (gx : Dg xs) (gy : Dg ys) (ny : Nr ys) (hl : xs.length ≤ 1000) (hm : ys.length ≤ 1000) : Calls Tryz.prog 52 #[.agg #[.bool n1, .slice a xs.length c], .agg #[.bool n2, .slice b ys.length d]] w fun e w' =>
    ∃ v L, e = .returned (.agg #[.bool (!(n1 == n2)), v]) ∧ DRow w' w.heap.size v L ∧ Dg L ∧ Nr L ∧ dval L = dval xs * dval ys ∧ Below w.heap.size w w' := by
  have HI := Lib.hid hI
  have HJ := Lib.hid hJ
  have GX := Lib.hid gx
  have GY := Lib.hid gy
  have NY := Lib.hid ny
  have HB0 := Lib.hid hb0
  clear hI hJ gx gy ny hb0
  go_enter Tryz.func52, Tryz.ntmps52
  go_wp2_with fail
  go_loopg [5, 6] (xs.length) (fun m sv iv wr => ∃ (i : Nat) (S : List Int), m + i = xs.length ∧ iv = .int .i64 (i : Int) ∧ Below w.heap.size w wr ∧ Blk wr w.heap.size #[.bool n1, .slice a xs.length c] 37 ∧ Blk wr (w.heap.size + 1) #[.bool n2, .slice b ys.length d] 37 ∧ Blk wr (w.heap.size + 1 + 1) #[.bool false, .slice none 0 0] 37 ∧ DRow wr (w.heap.size + 3) sv S ∧ Dg S ∧ Nr S ∧ dval S = dval (xs.take i) * dval ys)
  case atStart => exact ⟨0, [], by omega, rfl, by go_grown, Blk.alloc (Blk.alloc (Blk.here rfl rfl) _) _, Blk.alloc (Blk.here rfl (by simp)) _, Blk.here rfl (by simp), DRow.nil _ _, Dg.nil, Nr.nil, by simp [dval]⟩
  case round =>
    obtain ⟨i, S, hmi, rfl, hw, E0, E1, E2, hD, gs, ns, hv⟩ := hrel
    have k0 : w.heap.size < wr.heap.size := E0.lt
    have k1 : w.heap.size + 1 < wr.heap.size := E1.lt
    have k2 : w.heap.size + 1 + 1 < wr.heap.size := E2.lt
    obtain ⟨c00, c01, f00, f01⟩ := E0.two
    obtain ⟨c10, c11, f10, f11⟩ := E1.two
    by_cases hlt : i < xs.length
    · obtain ⟨x, hx, -⟩ := at_lt xs hlt
      obtain ⟨p, o, rfl, hpb, y0⟩ := irow_at HI.out hx
      have y9 := y0
      have z0 := (hw.cell (p := ⟨p, o + i, none⟩) hpb).trans y0
      have gx := GX.out.at hx
      have i1 : decide ((i : Int) < (xs.length : Int)) = true := by simp; omega
      have j3 : IntKind.i64.wrap ((i : Int) + 1) = (i : Int) + 1 := IntWalk.i64_in _ (by omega)
      have UP := Lib.hid (fun w' h => up_any false b d ys i w' h hd HB0.out (by omega) (by omega))
      have hup := upL_spec GY.out NY.out i
      obtain ⟨R, hR⟩ : ∃ R, R = upL ys i := ⟨_, rfl⟩
      rw [← hR] at UP hup
      have HUP := Lib.hid hup
      have HX := Lib.hid hx
      have HV := Lib.hid hv
      have HD := Lib.hid hD
      have GS := Lib.hid gs
      have NS := Lib.hid ns
      clear hR hup hx hv hD y0 gs ns
      go_wp2_with (go_at_call 50; refine (UP.out _ (HJ.out.below hw (Nat.le_refl _))).mono ?_
                   rintro e w1 ⟨v, rfl, hDR, hb⟩
                   obtain ⟨g, cc, rfl, hIR, hcc, hg0, hgb⟩ := hDR
                   have F0 := E0.below hb k0
                   have F1 := E1.below hb k1
                   have F2 := E2.below hb k2
                   have hw1 := hw.trans (hb.mono hw.size)
                   have zz := (hb.cell (p := ⟨p, o + i, none⟩) (Nat.lt_of_lt_of_le hpb hw.size)).trans z0
                   have HDS := Lib.hid (HD.out.below hb (Nat.le_refl _))
                   have HIR := Lib.hid hIR
                   clear c00 c01 f00 f01 c10 c11 f10 f11 z0 E0 E1 E2 k0 k1 k2 HD hIR hb
                   obtain ⟨c00, c01, f00, f01⟩ := F0.two
                   obtain ⟨c10, c11, f10, f11⟩ := F1.two
                   have k0 : w.heap.size < w1.heap.size := F0.lt
                   have k1 : w.heap.size + 1 < w1.heap.size := F1.lt
                   have k2 : w.heap.size + 1 + 1 < w1.heap.size := F2.lt)
      obtain ⟨G, hG⟩ : ∃ G, G = gk := ⟨_, rfl⟩
      subst hG
      have x0 : (0 : Int) ≤ x := gx.1
      go_loopg [5, 8] (x.toNat) (fun m tv kv wt => ∃ (k : Nat) (T : List Int), m + k = x.toNat ∧ kv = .int .i64 (k : Int) ∧ Below w.heap.size w wt ∧ Blk wt w.heap.size #[.bool n1, .slice (some ⟨p, o, none⟩) xs.length c] 37 ∧ Blk wt (w.heap.size + 1) #[.bool n2, .slice b ys.length d] 37 ∧ Blk wt (w.heap.size + 1 + 1) #[.bool false, .slice none 0 0] 37 ∧ Blk wt w1.heap.size #[.bool false, .slice g R.length cc] 37 ∧ IRow wt g R.length R ∧ DRow wt (w.heap.size + 3) tv T ∧ Dg T ∧ Nr T ∧ dval T = (dval (xs.take i) + 10 ^ i * (k : Int)) * dval ys)
      case atStart => exact ⟨0, S, by omega, rfl, hw1.alloc hw1.size _, F0.alloc _, F1.alloc _, F2.alloc _, Blk.here rfl rfl, HIR.out.below ((Below.refl _ _).alloc (Nat.le_refl _) _) (Nat.le_refl _), HDS.out.below ((Below.refl _ _).alloc (Nat.le_refl _) _) (Nat.le_refl _), GS.out, NS.out, by rw [HV.out]; simp⟩
      case round =>
        obtain ⟨k, T, hmk, rfl, hwt, T0, T1, T2, TR, hIRt, hDt, gt, nt, hvt⟩ := hrel
        have m0 : w.heap.size < wr.heap.size := T0.lt
        have m1 : w.heap.size + 1 < wr.heap.size := T1.lt
        have m2 : w.heap.size + 1 + 1 < wr.heap.size := T2.lt
        have m3 : w1.heap.size < wr.heap.size := TR.lt
        clear c00 c01 f00 f01 c10 c11 f10 f11 F0 F1 F2 k0 k1 k2
        obtain ⟨c00, c01, f00, f01⟩ := T0.two
        obtain ⟨c10, c11, f10, f11⟩ := T1.two
        obtain ⟨c20, c21, f20, f21⟩ := TR.two
        have z1 := (hwt.cell (p := ⟨p, o + i, none⟩) hpb).trans y9
        have j4 : IntKind.i64.wrap ((k : Int) + 1) = (k : Int) + 1 := IntWalk.i64_in _ (by omega)
        by_cases hk : (k : Int) < x
        · have i2 : decide ((k : Int) < x) = true := by simpa using hk
          have hTl := mul_len GX.out GY.out gt nt hlt (Int.natCast_nonneg k) (by omega) hvt
          have hRl := HUP.out.2.2.2
          obtain ⟨g2, c2, rfl, hI2, hc2, -, -⟩ := hDt
          have PL := Lib.hid (dplus_any g2 g c2 cc T R wr hI2 hIRt gt HUP.out.2.1 (by omega) (by omega))
          have hsp := plusL_spec T R 0 gt HUP.out.2.1 (by omega) (by omega)
          have hnr := (plusL_nr T R 0 gt HUP.out.2.1 nt HUP.out.2.2.1 (by omega) (by omega)).1
          have hln := plusL_len T R 0
          obtain ⟨U, hU⟩ : ∃ U, U = plusL T R 0 := ⟨_, rfl⟩
          rw [← hU] at PL hsp hnr hln
          have HVT := Lib.hid hvt
          have HSP := Lib.hid hsp
          have HNR := Lib.hid hnr
          have hUl : U.length ≤ 1152921504606846976 := by omega
          clear hU hvt hsp hnr hln hI2
          go_wp2_with (go_at_call 79; refine PL.out.mono ?_
                       rintro e w2 ⟨v, rfl, hO, hb⟩
                       have G0 := T0.below hb m0
                       have G1 := T1.below hb m1
                       have G2 := T2.below hb m2
                       have GR := TR.below hb m3
                       have hw2 := hwt.trans (hb.mono hwt.size)
                       have hI3 := hIRt.below hb (Nat.le_refl _)
                       have hD3 := (hO.drow hUl).mono (show w.heap.size + 3 ≤ wr.heap.size by omega)
                       clear c00 c01 f00 f01 c10 c11 f10 f11 c20 c21 f20 f21 z1 T0 T1 T2 TR hb hO)
          go_roundg (gk - 1)
          case measure => omega
          case rel => exact ⟨k + 1, U, by omega, by go_num, hw2, G0, G1, G2, GR, hI3, hD3, HSP.out.2, HNR.out, by
            rw [HSP.out.1, HVT.out, HUP.out.1]
            generalize (10 : Int) ^ i = P
            generalize dval (xs.take i) = D
            generalize dval ys = Y
            rw [show ((k + 1 : Nat) : Int) = (k : Int) + 1 by omega, Int.mul_add P, Int.mul_one, ← Int.add_assoc, Int.add_mul (D + P * k) P Y, Int.mul_comm P Y, Int.add_zero]⟩
        · have i2 : decide ((k : Int) < x) = false := by simpa using hk
          have hkx : (k : Int) = x := by omega
          rw [hkx] at hvt
          rw [← dval_snoc HX.out] at hvt
          have HVT := Lib.hid hvt
          have HDT := Lib.hid hDt
          have GT := Lib.hid gt
          have NT := Lib.hid nt
          clear hvt hDt hkx gt nt
          go_wp2_with fail
          go_roundg (G - 1)
          case measure => omega
          case rel => exact ⟨i + 1, T, by omega, by go_num, hwt, T0, T1, T2, HDT.out, GT.out, NT.out, HVT.out⟩
    · have i1 : decide ((i : Int) < (xs.length : Int)) = false := by simp; omega
      rw [show i = xs.length by omega, List.take_of_length_le (Nat.le_refl _)] at hv
      have hD2 := hD
      obtain ⟨g, cc, rfl, -⟩ := hD2
      have HV := Lib.hid hv
      have HD := Lib.hid hD
      clear hv hD
      obtain ⟨c20, c21, f20, f21⟩ := E2.two
      go_wp2_with fail
      refine bodyPost_ret (v := .agg #[.bool (!(n1 == n2)), .slice g S.length cc]) (by simp [results, Tryz.results52, go_sem, c20, c21, f20, f21]) rfl ⟨_, S, rfl, ?_, gs, ns, HV.out, ?_⟩
      · exact (((HD.out.other (by simp) _).other (by simp) _).mono (by omega))
      · go_grown
        all_goals first | exact hw | exact hw.size | omega
end Go.Proofs.YtgbghbeolndfiaaGreatDoor
