/- The library's symMerge at ints, where the second run is of one: what it makes of a row. -/
import Derived.Test.YtpnlhkpibgngbaaStA
set_option linter.unusedSimpArgs false
set_option linter.unusedVariables false
namespace Go.Proofs.Ytpnlhkpibgngbaa
open Go.RowKit Go.Sort Go.Proofs

set_option maxHeartbeats 8000000 in
set_option maxRecDepth 1000000 in
theorem merge_last (κ : Int → Int) (p5 p4 blk cap a m : Nat) (d : Array Int) (w : World) (hH : Holds (Value.int .i64) w blk 0 d) (hC : CR κ p5 p4 blk d.size w) (hb : m < d.size) (ham : a + 1 < m) (hsz : d.size ≤ 1000000) (hs : srt κ a m d) :
    Calls Try.prog 67 #[.slice (some ⟨blk, 0, none⟩) d.size cap, .int .i64 a, .int .i64 m, .int .i64 ((m : Int) + 1), .func (.func 54) #[] (cbv p5 p4)] w (Post κ a (m + 1) d blk w) := by
  have HH : Hid (Holds (Value.int .i64) w blk 0 d) := hH
  have HS : Hid (w = rw1 w blk d 0) := (putRow_self (Value.int .i64) w blk 0 d hH).symm
  have HC : Hid (CR κ p5 p4 blk d.size w) := hC
  have HSR : Hid (srt κ a m d) := hs
  clear hH hC hs
  unfold cbv
  have e28 : ((m : Int) - (a : Int) == 1) = false := by rw [beq_eq_false_iff_ne]; omega
  have e80 : ((m : Int) + 1 - (m : Int) == 1) = true := by rw [beq_iff_eq]; omega
  go_enter Try.func67, Try.ntmps67
  go_wp2_with fail
  go_loopg [14, 15] (m - a) (fun g vi vj wr => ∃ (i j q : Nat), vi = .int .i64 i ∧ vj = .int .i64 j ∧ a ≤ i ∧ i ≤ j ∧ j ≤ m ∧ j ≤ g + i ∧ Hid (wr = rw1 w blk d q) ∧ Hid (i = a ∨ ¬ κ d[m]! < κ d[i - 1]!) ∧ Hid (j = m ∨ κ d[m]! < κ d[j]!))
  case atStart => exact ⟨a, m, 0, rfl, rfl, by omega, by omega, by omega, by omega, HS.out, .inl rfl, .inl rfl⟩
  case round =>
    obtain ⟨i, j, q, rfl, rfl, hi, hij, hj, hg, HW, I1, I2⟩ := hrel
    by_cases hlt : i < j
    · have hltz : (i : Int) < (j : Int) := by omega
      have hjz : (j : Int) ≤ 1000000 := by omega
      obtain ⟨h, hh1, hh2, hh3⟩ : ∃ h : Nat, h = (i + j) / 2 ∧ i ≤ h ∧ h < j := ⟨(i + j) / 2, rfl, by omega, by omega⟩
      go_wp2_with fail
      have ez : ((i : Int) + (j : Int)) / 2 = (h : Int) := by omega
      rw [ez]
      clear ez hh1
      obtain ⟨xh, hxh⟩ : ∃ x, d[h]! = x := ⟨_, rfl⟩
      obtain ⟨xa, hxa⟩ : ∃ x, d[m]! = x := ⟨_, rfl⟩
      have ch := (rw1_cell HH.out rfl q h (by omega)).1
      have ca := (rw1_cell HH.out rfl q m (by omega)).1
      rw [hxh] at ch
      rw [hxa] at ca
      have hc := HC.out.at_ (dk := d) rfl q xa xh
      rw [← HW.out] at ch ca hc
      have zh : (h : Int) < (d.size : Int) := by omega
      have za : (m : Int) < (d.size : Int) := by omega
      have HXH := Lib.hid hxh
      have HXA := Lib.hid hxa
      clear hxh hxa
      by_cases hl : κ xa - κ xh < 0
      · go_quiet (first | (go_at_call 54; refine Calls.quiet_of (hc _)))
        go_wp2_with fail
        go_roundg (h - i)
        case measure => omega
        case rel =>
          refine ⟨i, h, q + nq, rfl, by go_num, by omega, by omega, by omega, by omega, (show Hid _ from ?_), I1, (show Hid _ from .inr ?_)⟩
          · show _ = _
            rw [HW.out]; unfold rw1; rw [World.drewN_drewN]
          · rw [HXH.out, HXA.out]; omega
      · go_quiet (first | (go_at_call 54; refine Calls.quiet_of (hc _)))
        go_wp2_with fail
        go_roundg (j - (h + 1))
        case measure => omega
        case rel =>
          refine ⟨h + 1, j, q + nq, by go_num, rfl, by omega, by omega, by omega, by omega, (show Hid _ from ?_), (show Hid _ from .inr ?_), I2⟩
          · show _ = _
            rw [HW.out]; unfold rw1; rw [World.drewN_drewN]
          · rw [Nat.add_sub_cancel, HXH.out, HXA.out]; omega
    · have hij' : i = j := by omega
      subst hij'
      have hltz : ¬ (i : Int) < (i : Int) := by omega
      have L1 : Hid (∀ t, a ≤ t → t < i → κ d[t]! ≤ κ d[m]!) := fun t h1 h2 => by
        rcases I1.out with h | h
        · omega
        · by_cases ht : t = i - 1
          · rw [ht]; omega
          · have := HSR.out t (i - 1) h1 (by omega) (by omega)
            omega
      have L2 : Hid (∀ t, i ≤ t → t < m → κ d[m]! < κ d[t]!) := fun t h1 h2 => by
        rcases I2.out with h | h
        · omega
        · by_cases ht : i = t
          · rw [← ht]; exact h
          · have := HSR.out i t hi (by omega) h2
            omega
      clear I1 I2
      go_wp2_with fail
      obtain ⟨wo, rfl⟩ : ∃ wo : World, wo = wr := ⟨_, rfl⟩
      have iz : (i : Int) ≤ 1000000 := by omega
      have mz : (m : Int) ≤ 1000000 := by omega
      go_loopg [17] (m - i) (fun g vk wr => ∃ (k q : Nat) (dk : Array Int), vk = .int .i64 k ∧ i ≤ k ∧ k ≤ m ∧ k ≤ g + i ∧ dk.size = d.size ∧ Hid (wr = rw1 w blk dk q) ∧ Hid (St κ a (m + 1) d dk) ∧ Hid (∀ t, dk[t]! = d[if t = k then m else if k < t ∧ t ≤ m then t - 1 else t]!))
      case atStart =>
        refine ⟨m, q, d, rfl, by omega, Nat.le_refl _, by omega, rfl, HW, St.refl κ a (m + 1) d, fun t => ?_⟩
        congr 1
        repeat' split
        all_goals omega
      case round =>
        obtain ⟨k, q, dk, rfl, hk1, hk2, hg, hds, HW, HST, HI⟩ := hrel
        by_cases hlt : i < k
        · obtain ⟨kp, rfl⟩ : ∃ kp, k = kp + 1 := ⟨k - 1, by omega⟩
          obtain ⟨x, hx⟩ : ∃ x, dk[kp]! = x := ⟨_, rfl⟩
          obtain ⟨y, hy⟩ : ∃ y, dk[kp + 1]! = y := ⟨_, rfl⟩
          obtain ⟨c0, f0⟩ := rw1_cell HH.out hds q kp (by omega)
          obtain ⟨c1, f1⟩ := rw1_cell HH.out hds q (kp + 1) (by omega)
          rw [← HW.out] at c0 f0 c1 f1
          rw [hx] at c0
          rw [hy] at c1
          obtain ⟨k1, hk1'⟩ : ∃ p, p = kp + 1 := ⟨_, rfl⟩
          rw [← hk1'] at c1 f1 ⊢
          have ek : (k1 : Int) - 1 = (kp : Int) := by omega
          have z0 : (kp : Int) < (d.size : Int) := by omega
          have z1 : (k1 : Int) < (d.size : Int) := by omega
          have hne : kp ≠ k1 := by omega
          have hltz : (i : Int) < (k1 : Int) := by omega
          have HX := Lib.hid hx
          have HY := Lib.hid hy
          have HK1 := Lib.hid hk1'
          clear hx hy hk1'
          go_wp2_with fail
          go_big_region
          all_goals go_wp2
          go_roundg (gk - 1)
          case measure => omega
          case rel =>
            have g0 : dk[kp]! = d[kp]! := by rw [HI.out]; congr 1; rw [if_neg (by omega), if_neg (by omega)]
            have g1 : dk[kp + 1]! = d[m]! := by rw [HI.out]; congr 1; rw [if_pos rfl]
            refine ⟨kp, q + 1, swp dk (kp + 1) kp, by first | rfl | go_num, by omega, by omega, by omega, by rw [size_swp]; exact hds, (show Hid _ from ?_), (show Hid _ from ?_), (show Hid _ from fun t => ?_)⟩
            · show _ = _
              rw [HK1.out, HW.out]
              exact rw1_swap w blk dk q (kp + 1) kp (by omega) (by omega) HX.out HY.out
            · have h1 := L2.out kp (by omega) (by omega)
              exact HST.out.trans (St.swap (by omega) (by omega) (by omega) (by rw [g0, g1]; omega))
            · by_cases t0 : t = kp
              · subst t0
                rw [swp_right _ _ _ (by omega), g1, if_pos rfl]
              · by_cases t1 : t = kp + 1
                · subst t1
                  rw [swp_left _ _ _ (by omega) (by omega), g0, if_neg (by omega), if_pos (by omega)]
                  congr 1
                · rw [swp_other _ _ _ _ t1 t0, HI.out]
                  congr 1
                  repeat' split
                  all_goals omega
        · have hltz : ¬ (i : Int) < (k : Int) := by omega
          have hk : k = i := by omega
          go_wp2
          go_end0
          refine ⟨rfl, q, dk, HW.out, HST.out, fun s t h1 h2 h3 => ?_⟩
          have G : ∀ t, t < i → dk[t]! = d[t]! := fun t h1 => by rw [HI.out, if_neg (by omega), if_neg (by omega)]
          have G1 : dk[i]! = d[m]! := by rw [HI.out, if_pos hk.symm]
          have G2 : ∀ t, i < t → t ≤ m → dk[t]! = d[t - 1]! := fun t h1 h2 => by rw [HI.out, if_neg (by omega), if_pos (by omega)]
          by_cases s1 : s < i
          · rw [G s s1]
            by_cases t1 : t < i
            · rw [G t t1]; exact HSR.out _ _ h1 h2 (by omega)
            · by_cases t2 : t = i
              · rw [t2, G1]; exact L1.out _ h1 s1
              · rw [G2 t (by omega) (by omega)]; exact HSR.out _ _ h1 (by omega) (by omega)
          · by_cases s2 : s = i
            · rw [s2, G1, G2 t (by omega) (by omega)]; exact Int.le_of_lt (L2.out _ (by omega) (by omega))
            · rw [G2 s (by omega) (by omega), G2 t (by omega) (by omega)]; exact HSR.out _ _ (by omega) (by omega) (by omega)
end Go.Proofs.Ytpnlhkpibgngbaa
