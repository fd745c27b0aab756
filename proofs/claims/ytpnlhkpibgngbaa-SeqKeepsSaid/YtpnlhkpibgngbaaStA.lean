/- The library's symMerge at ints, where the first run is of one: what it makes of a row. -/
import Derived.Test.YtpnlhkpibgngbaaStR
import Derived.Shelf.SlSortCmp.Insertion
set_option linter.unusedSimpArgs false
set_option linter.unusedVariables false
namespace Go.Proofs.Ytpnlhkpibgngbaa
open Go.RowKit Go.Sort Go.Proofs

/-- The two pointers that Order's closure holds. -/
def cbv (p5 p4 : Nat) : Array Value := #[.pointer (some ⟨p5, 0, none⟩), .pointer (some ⟨p4, 0, none⟩)]
/-- The closure answers the difference of keys, whatever the row holds. -/
def CR (κ : Int → Int) (p5 p4 blk : Nat) (N : Nat) (w : World) : Prop := ∀ (m : Nat) (dk : Array Int), dk.size = N → ∀ x y : Int,
  Calls Try.prog 54 #[.int .i64 x, .int .i64 y, .pointer (some ⟨p5, 0, none⟩), .pointer (some ⟨p4, 0, none⟩)] (rw1 w blk dk m) fun e w' => e = .returned (.int .i64 (κ x - κ y)) ∧ ∃ q, w' = (rw1 w blk dk m).drewN q
theorem CR.at_ {κ : Int → Int} {p5 p4 blk N : Nat} {w : World} (h : CR κ p5 p4 blk N w) {dk : Array Int} (hs : dk.size = N) (q : Nat) (x y : Int) (n : Nat) :
    Calls Try.prog 54 #[.int .i64 x, .int .i64 y, .pointer (some ⟨p5, 0, none⟩), .pointer (some ⟨p4, 0, none⟩)] ((rw1 w blk dk q).drewN n) fun e w' => e = .returned (.int .i64 (κ x - κ y)) ∧ ∃ q', w' = ((rw1 w blk dk q).drewN n).drewN q' := by
  have := h (q + n) dk hs x y
  unfold rw1 at *
  rw [← World.drewN_drewN] at this
  exact this
/-- What a sort that is stable makes. -/
def Post (κ : Int → Int) (a b : Nat) (d : Array Int) (blk : Nat) (w : World) (e : Ending) (w' : World) : Prop := e = .returned (.tuple #[]) ∧ ∃ q d', w' = rw1 w blk d' q ∧ St κ a b d d' ∧ srt κ a b d'
theorem swp_comm (d : Array Int) (i j : Nat) : swp d i j = swp d j i := by
  by_cases h : i = j
  · rw [h]
  · unfold swp
    rw [Array.setIfInBounds_comm _ _ h]

set_option maxHeartbeats 8000000 in
set_option maxRecDepth 1000000 in
theorem merge_one (κ : Int → Int) (p5 p4 blk cap a b : Nat) (d : Array Int) (w : World) (hH : Holds (Value.int .i64) w blk 0 d) (hC : CR κ p5 p4 blk d.size w) (hb : b ≤ d.size) (hab : a + 1 < b) (hsz : d.size ≤ 1000000) (hs : srt κ (a + 1) b d) :
    Calls Try.prog 67 #[.slice (some ⟨blk, 0, none⟩) d.size cap, .int .i64 a, .int .i64 ((a : Int) + 1), .int .i64 b, .func (.func 54) #[] (cbv p5 p4)] w (Post κ a b d blk w) := by
  have HH : Hid (Holds (Value.int .i64) w blk 0 d) := hH
  have HS : Hid (w = rw1 w blk d 0) := (putRow_self (Value.int .i64) w blk 0 d hH).symm
  have HC : Hid (CR κ p5 p4 blk d.size w) := hC
  have HSR : Hid (srt κ (a + 1) b d) := hs
  clear hH hC hs
  unfold cbv
  have e28 : ((a : Int) + 1 - (a : Int) == 1) = true := by rw [beq_iff_eq]; omega
  go_enter Try.func67, Try.ntmps67
  go_wp2_with fail
  go_loopg [10, 11] (b - a) (fun g vi vj wr => ∃ (i j q : Nat), vi = .int .i64 i ∧ vj = .int .i64 j ∧ a + 1 ≤ i ∧ i ≤ j ∧ j ≤ b ∧ j ≤ g + i ∧ Hid (wr = rw1 w blk d q) ∧ Hid (i = a + 1 ∨ κ d[i - 1]! < κ d[a]!) ∧ Hid (j = b ∨ ¬ κ d[j]! < κ d[a]!))
  case atStart => exact ⟨a + 1, b, 0, by go_num, rfl, by omega, by omega, by omega, by omega, HS.out, .inl rfl, .inl rfl⟩
  case round =>
    obtain ⟨i, j, q, rfl, rfl, hi, hij, hj, hg, HW, I1, I2⟩ := hrel
    by_cases hlt : i < j
    · have hltz : (i : Int) < (j : Int) := by omega
      have hjz : (j : Int) ≤ 1000000 := by omega
      obtain ⟨h, hh1, hh2, hh3⟩ : ∃ h : Nat, h = (i + j) / 2 ∧ i ≤ h ∧ h < j := ⟨(i + j) / 2, rfl, by omega, by omega⟩
      go_wp2_with fail
      have ez : ((i : Int) + (j : Int)) / 2 = (h : Int) := by omega
      rw [ez]
      clear ez hh1
      obtain ⟨xh, hxh⟩ : ∃ x, d[h]! = x := ⟨_, rfl⟩
      obtain ⟨xa, hxa⟩ : ∃ x, d[a]! = x := ⟨_, rfl⟩
      have ch := (rw1_cell HH.out rfl q h (by omega)).1
      have ca := (rw1_cell HH.out rfl q a (by omega)).1
      rw [hxh] at ch
      rw [hxa] at ca
      have hc := HC.out.at_ (dk := d) rfl q xh xa
      rw [← HW.out] at ch ca hc
      have zh : (h : Int) < (d.size : Int) := by omega
      have za : (a : Int) < (d.size : Int) := by omega
      have HXH := Lib.hid hxh
      have HXA := Lib.hid hxa
      clear hxh hxa
      by_cases hl : κ xh - κ xa < 0
      · go_quiet (first | (go_at_call 54; refine Calls.quiet_of (hc _)))
        go_wp2_with fail
        go_roundg (j - (h + 1))
        case measure => omega
        case rel =>
          refine ⟨h + 1, j, q + nq, by go_num, rfl, by omega, by omega, by omega, by omega, (show Hid _ from ?_), (show Hid _ from .inr ?_), I2⟩
          · show _ = _
            rw [HW.out]; unfold rw1; rw [World.drewN_drewN]
          · rw [Nat.add_sub_cancel, HXH.out, HXA.out]; omega
      · go_quiet (first | (go_at_call 54; refine Calls.quiet_of (hc _)))
        go_wp2_with fail
        go_roundg (h - i)
        case measure => omega
        case rel =>
          refine ⟨i, h, q + nq, rfl, by go_num, by omega, by omega, by omega, by omega, (show Hid _ from ?_), I1, (show Hid _ from .inr ?_)⟩
          · show _ = _
            rw [HW.out]; unfold rw1; rw [World.drewN_drewN]
          · rw [HXH.out, HXA.out]; omega
    · have hij' : i = j := by omega
      subst hij'
      have hltz : ¬ (i : Int) < (i : Int) := by omega
      -- all ahead of i are less, all from i on are not
      have L1 : Hid (∀ t, a + 1 ≤ t → t < i → κ d[t]! < κ d[a]!) := fun t h1 h2 => by
        rcases I1.out with h | h
        · omega
        · by_cases ht : t = i - 1
          · rw [ht]; exact h
          · have := HSR.out t (i - 1) h1 (by omega) (by omega)
            omega
      have L2 : Hid (∀ t, i ≤ t → t < b → κ d[a]! ≤ κ d[t]!) := fun t h1 h2 => by
        rcases I2.out with h | h
        · omega
        · by_cases ht : i = t
          · rw [← ht]; omega
          · have := HSR.out i t hi (by omega) h2
            omega
      have HWo := HW
      clear I1 I2
      go_wp2_with fail
      obtain ⟨wo, rfl⟩ : ∃ wo : World, wo = wr := ⟨_, rfl⟩
      have iz : (i : Int) ≤ 1000000 := by omega
      go_loopg [13] (i - a) (fun g vk wr => ∃ (k q : Nat) (dk : Array Int), vk = .int .i64 k ∧ a ≤ k ∧ k + 1 ≤ i ∧ i - 1 - k ≤ g ∧ dk.size = d.size ∧ Hid (wr = rw1 w blk dk q) ∧ Hid (St κ a b d dk) ∧ Hid (∀ t, dk[t]! = d[if a ≤ t ∧ t < k then t + 1 else if t = k then a else t]!))
      case atStart => exact ⟨a, q, d, rfl, Nat.le_refl _, by omega, by omega, rfl, HW, St.refl κ a b d, fun t => by congr 1; split; omega; split; omega; rfl⟩
      case round =>
        obtain ⟨k, q, dk, rfl, hk1, hk2, hg, hds, HW, HST, HI⟩ := hrel
        by_cases hlt : k + 1 < i
        · have hltz : (k : Int) < (i : Int) - 1 := by omega
          obtain ⟨x, hx⟩ : ∃ x, dk[k]! = x := ⟨_, rfl⟩
          obtain ⟨y, hy⟩ : ∃ y, dk[k + 1]! = y := ⟨_, rfl⟩
          obtain ⟨c0, f0⟩ := rw1_cell HH.out hds q k (by omega)
          obtain ⟨c1, f1⟩ := rw1_cell HH.out hds q (k + 1) (by omega)
          rw [← HW.out] at c0 f0 c1 f1
          rw [hx] at c0
          rw [hy] at c1
          obtain ⟨k1, hk1'⟩ : ∃ p, p = k + 1 := ⟨_, rfl⟩
          rw [← hk1'] at c1 f1
          have ek : (k : Int) + 1 = (k1 : Int) := by omega
          have z0 : (k : Int) < (d.size : Int) := by omega
          have z1 : (k1 : Int) < (d.size : Int) := by omega
          have hne : k ≠ k1 := by omega
          have HX := Lib.hid hx
          have HY := Lib.hid hy
          have HK1 := Lib.hid hk1'
          clear hx hy hk1'
          go_wp2_with fail
          go_big_region
          all_goals go_wp2
          go_roundg (gk - 1)
          case measure => omega
          case rel =>
            have g0 : dk[k]! = d[a]! := by rw [HI.out]; congr 1; rw [if_neg (by omega), if_pos rfl]
            have g1 : dk[k + 1]! = d[k + 1]! := by rw [HI.out]; congr 1; rw [if_neg (by omega), if_neg (by omega)]
            refine ⟨k + 1, q + 1, swp dk k (k + 1), by go_num, by omega, by omega, by omega, by rw [size_swp]; exact hds, (show Hid _ from ?_), (show Hid _ from ?_), (show Hid _ from fun t => ?_)⟩
            · show _ = _
              rw [HK1.out, HW.out]
              exact rw1_swap w blk dk q k (k + 1) (by omega) (by omega) HY.out HX.out
            · have h1 := L1.out (k + 1) (by omega) (by omega)
              refine HST.out.trans ?_
              rw [swp_comm]
              exact St.swap (by omega) (by omega) (by omega) (by rw [g0, g1]; omega)
            · by_cases t0 : t = k
              · subst t0
                rw [swp_left _ _ _ (by omega) (by omega), g1, if_pos (by omega)]
              · by_cases t1 : t = k + 1
                · subst t1
                  rw [swp_right _ _ _ (by omega), g0, if_neg (by omega), if_pos rfl]
                · rw [swp_other _ _ _ _ t0 t1, HI.out]
                  congr 1
                  repeat' split
                  all_goals omega
        · have hltz : ¬ (k : Int) < (i : Int) - 1 := by omega
          have hk : k = i - 1 := by omega
          go_wp2
          go_end0
          refine ⟨rfl, q, dk, HW.out, HST.out, fun s t h1 h2 h3 => ?_⟩
          have G : ∀ t, a ≤ t → t < i - 1 → dk[t]! = d[t + 1]! := fun t h1 h2 => by rw [HI.out, if_pos (by omega)]
          have G1 : dk[i - 1]! = d[a]! := by rw [HI.out, if_neg (by omega), if_pos hk.symm]
          have G2 : ∀ t, i ≤ t → dk[t]! = d[t]! := fun t h1 => by rw [HI.out, if_neg (by omega), if_neg (by omega)]
          by_cases s1 : s < i - 1
          · rw [G s h1 s1]
            by_cases t1 : t < i - 1
            · rw [G t (by omega) t1]; exact HSR.out _ _ (by omega) (by omega) (by omega)
            · by_cases t2 : t = i - 1
              · rw [t2, G1]; exact Int.le_of_lt (L1.out _ (by omega) (by omega))
              · rw [G2 t (by omega)]; exact HSR.out _ _ (by omega) (by omega) h3
          · by_cases s2 : s = i - 1
            · rw [s2, G1, G2 t (by omega)]; exact L2.out t (by omega) h3
            · rw [G2 s (by omega), G2 t (by omega)]; exact HSR.out _ _ (by omega) h2 h3
end Go.Proofs.Ytpnlhkpibgngbaa
