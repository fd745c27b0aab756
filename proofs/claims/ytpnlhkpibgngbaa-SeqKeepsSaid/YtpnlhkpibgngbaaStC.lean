/- The library's symMerge at ints: what it makes of a row. -/
import Derived.Test.YtpnlhkpibgngbaaStB
import Derived.Deep.Cut
import Derived.Deep.CutRange
set_option linter.unusedSimpArgs false
set_option linter.unusedVariables false
namespace Go.Proofs.Ytpnlhkpibgngbaa
open Go.RowKit Go.Sort Go.Proofs

theorem CR.shift {κ : Int → Int} {p5 p4 blk N : Nat} {w : World} (h : CR κ p5 p4 blk N w) {d : Array Int} (hs : d.size = N) (q : Nat) : CR κ p5 p4 blk N (rw1 w blk d q) := fun m dk hk x y => by
  rw [rw1_rw1 _ _ _ _ _ _ (hk.trans hs.symm)]
  exact h (q + m) dk hk x y
/-- The contract, for runs of at most L. -/
def MergeTo (κ : Int → Int) (p5 p4 blk cap L : Nat) : Prop := ∀ (a m b : Nat) (d : Array Int) (w : World), b - a ≤ L → Holds (Value.int .i64) w blk 0 d → CR κ p5 p4 blk d.size w → b ≤ d.size → a < m → m < b → d.size ≤ 1000000 → srt κ a m d → srt κ m b d →
  Calls Try.prog 67 #[.slice (some ⟨blk, 0, none⟩) d.size cap, .int .i64 a, .int .i64 m, .int .i64 b, .func (.func 54) #[] (cbv p5 p4)] w (Post κ a b d blk w)
theorem rotI_none (a m b t : Nat) (h : a = m ∨ m = b) (h1 : a ≤ m) (h2 : m ≤ b) : rotI a m b t = t := by
  unfold rotI
  repeat' split
  all_goals omega


set_option maxHeartbeats 16000000 in
set_option maxRecDepth 1000000 in
theorem merge_hi (κ : Int → Int) (p5 p4 blk cap L a m b : Nat) (d : Array Int) (w : World) (IH : MergeTo κ p5 p4 blk cap L) (hL : b - a ≤ L + 1) (hH : Holds (Value.int .i64) w blk 0 d) (hC : CR κ p5 p4 blk d.size w) (hb : b ≤ d.size) (ham : a + 1 < m) (hmb : m + 1 < b) (hsz : d.size ≤ 1000000) (hs1 : srt κ a m d) (hs2 : srt κ m b d) (hcase : (a + b) / 2 < m) :
    Calls Try.prog 67 #[.slice (some ⟨blk, 0, none⟩) d.size cap, .int .i64 a, .int .i64 m, .int .i64 b, .func (.func 54) #[] (cbv p5 p4)] w (Post κ a b d blk w) := by
  have HH : Hid (Holds (Value.int .i64) w blk 0 d) := hH
  have HS : Hid (w = rw1 w blk d 0) := (putRow_self (Value.int .i64) w blk 0 d hH).symm
  have HC : Hid (CR κ p5 p4 blk d.size w) := hC
  have S1 : Hid (srt κ a m d) := hs1
  have S2 : Hid (srt κ m b d) := hs2
  have HIH : Hid (MergeTo κ p5 p4 blk cap L) := IH
  clear hH hC hs1 hs2 IH
  unfold cbv
  have e28 : ((m : Int) - (a : Int) == 1) = false := by rw [beq_eq_false_iff_ne]; omega
  have e80 : ((b : Int) - (m : Int) == 1) = false := by rw [beq_eq_false_iff_ne]; omega
  have bz : (b : Int) ≤ 1000000 := by omega
  have hcz : ((a : Int) + (b : Int)) / 2 < (m : Int) := by omega
  obtain ⟨mid, hmid⟩ : ∃ mid, mid = (a + b) / 2 := ⟨_, rfl⟩
  have ez : ((a : Int) + (b : Int)) / 2 = (mid : Int) := by omega
  have EZ := Lib.hid ez
  have HMID := Lib.hid hmid
  have hm1 : a < mid := by omega
  have hm3 : 2 * mid ≤ a + b := by omega
  have hm4 : a + b ≤ 2 * mid + 1 := by omega
  have hm2 : mid < b := by omega
  have hcm : mid < m := by omega
  have hlo : a ≤ mid + m - b := by omega
  have hab2 : mid + m ≤ mid + b := by omega
  clear ez
  go_enter Try.func67, Try.ntmps67
  go_wp2_with fail
  rw [EZ.out]
  clear hcz
  obtain ⟨n, hn⟩ : ∃ n, n = mid + m := ⟨_, rfl⟩
  obtain ⟨p, hp⟩ : ∃ p, n = p + 1 := ⟨n - 1, by omega⟩
  have en : (mid : Int) + (m : Int) = (p : Int) + 1 := by omega
  rw [en]
  have NH := Lib.hid hn
  have PH := Lib.hid hp
  clear en hmid hn hp
  have ep : (p : Int) + 1 - 1 = (p : Int) := by omega
  (try rw [ep])
  clear ep
  have hpm : p + 1 = mid + m := by rw [← PH.out, NH.out]
  go_loopg [20, 21] (b - a) (fun g vi vj wr => ∃ (s r q : Nat), vi = .int .i64 s ∧ vj = .int .i64 r ∧ mid + m - b ≤ s ∧ s ≤ r ∧ r ≤ mid ∧ r ≤ g + s ∧ Hid (wr = rw1 w blk d q) ∧ Hid (s = mid + m - b ∨ (0 < s ∧ ¬ κ d[p - (s - 1)]! < κ d[s - 1]!)) ∧ Hid (r = mid ∨ κ d[p - r]! < κ d[r]!))
  case atStart => exact ⟨mid + m - b, mid, 0, by first | rfl | (congr 1; omega), by first | rfl | (congr 1; omega), by omega, by omega, by omega, by omega, HS.out, .inl rfl, .inl rfl⟩
  case round =>
    obtain ⟨s, r, q, rfl, rfl, hs, hsr, hr, hg, HW, I1, I2⟩ := hrel
    have hs0 : a ≤ s := by omega
    by_cases hlt : s < r
    · have hltz : (s : Int) < (r : Int) := by omega
      have hjz : (r : Int) ≤ 1000000 := by omega
      obtain ⟨c, hc1, hc2, hc3⟩ : ∃ c : Nat, c = (s + r) / 2 ∧ s ≤ c ∧ c < r := ⟨(s + r) / 2, rfl, by omega, by omega⟩
      go_wp2_with fail
      have ez : ((s : Int) + (r : Int)) / 2 = (c : Int) := by omega
      rw [ez]
      clear ez hc1
      obtain ⟨pc, hpc⟩ : ∃ pc, pc = p - c := ⟨_, rfl⟩
      have epc : (p : Int) - (c : Int) = (pc : Int) := by omega
      obtain ⟨x, hx⟩ : ∃ x, d[pc]! = x := ⟨_, rfl⟩
      obtain ⟨y, hy⟩ : ∃ y, d[c]! = y := ⟨_, rfl⟩
      have cx := (rw1_cell HH.out rfl q pc (by omega)).1
      have cy := (rw1_cell HH.out rfl q c (by omega)).1
      rw [hx] at cx
      rw [hy] at cy
      have hc := HC.out.at_ (dk := d) rfl q x y
      rw [← HW.out] at cx cy hc
      have zx : (pc : Int) < (d.size : Int) := by omega
      have zy : (c : Int) < (d.size : Int) := by omega
      have HX := Lib.hid hx
      have HY := Lib.hid hy
      have HPC := Lib.hid hpc
      clear hx hy hpc
      by_cases hl : κ x - κ y < 0
      · go_quiet (first | (go_at_call 54; refine Calls.quiet_of (hc _)))
        go_wp2_with fail
        go_roundg (c - s)
        case measure => omega
        case rel =>
          refine ⟨s, c, q + nq, rfl, by go_num, by omega, by omega, by omega, by omega, (show Hid _ from ?_), I1, (show Hid _ from .inr ?_)⟩
          · show _ = _
            rw [HW.out]; unfold rw1; rw [World.drewN_drewN]
          · rw [← HPC.out, HX.out, HY.out]; omega
      · go_quiet (first | (go_at_call 54; refine Calls.quiet_of (hc _)))
        go_wp2_with fail
        go_roundg (r - (c + 1))
        case measure => omega
        case rel =>
          refine ⟨c + 1, r, q + nq, by go_num, rfl, by omega, by omega, by omega, by omega, (show Hid _ from ?_), (show Hid _ from .inr ⟨by omega, ?_⟩), I2⟩
          · show _ = _
            rw [HW.out]; unfold rw1; rw [World.drewN_drewN]
          · rw [Nat.add_sub_cancel, ← HPC.out, HX.out, HY.out]; omega
    · have hsr' : s = r := by omega
      subst hsr'
      have hltz : ¬ (s : Int) < (s : Int) := by omega
      obtain ⟨e, he⟩ : ∃ e, e = p + 1 - s := ⟨_, rfl⟩
      have ee : (p : Int) + 1 - (s : Int) = (e : Int) := by omega
      have hme : m ≤ e := by omega
      have heb : e ≤ b := by omega
      have hse : s + e = mid + m := by omega
      have hsm : s ≤ m := by omega
      have hsmid : s ≤ mid := by omega
      have CF := Lib.hid (cut_facts (start := s) S1.out S2.out (by omega) (by omega) hs0 hsm (by have := HMID.out; omega) (by have := HMID.out; omega) (by have := HMID.out; omega)
        (by
          have hh := HMID.out
          rw [← hh]
          rcases I1.out with h | h
          · right; left; omega
          · right; right
            have h2 := h.2
            rwa [show p - (s - 1) = mid + m - s by omega] at h2)
        (by
          have hh := HMID.out
          rw [← hh]
          rcases I2.out with h | h
          · right; left; exact h
          · right; right
            rwa [show p - s = mid + m - 1 - s by omega] at h))
      rw [← HMID.out, show mid + m - s = e by omega] at CF
      have HE := Lib.hid he
      clear he I1 I2
      have sz : (s : Int) ≤ 1000000 := by omega
      have HHr : Hid (Holds (Value.int .i64) wr blk 0 d) := by rw [HW.out]; exact rw1_holds HH.out rfl q
      have HCr : Hid (CR κ p5 p4 blk d.size wr) := by rw [HW.out]; exact HC.out.shift rfl q
      go_upto_region 39 with fail
      (try rw [ee])
      go_cut [185] from 178 to 191 (fun c wx => c = .bool (decide (s < m ∧ m < e)) ∧ wx = wr)
      case first =>
        by_cases hg0 : s < m
        · have hg0z : (s : Int) < (m : Int) := by omega
          by_cases hg9 : m < e
          · have hg9z : (m : Int) < (e : Int) := by omega
            go_wp2_with fail
            go_meet
            case rel => exact ⟨by rw [decide_eq_true (show s < m ∧ m < e from ⟨hg0, hg9⟩)], rfl⟩
          · have hg9z : ¬ (m : Int) < (e : Int) := by omega
            go_wp2_with fail
            go_meet
            case rel => exact ⟨by rw [decide_eq_false (show ¬ (s < m ∧ m < e) from fun h => hg9 h.2)], rfl⟩
        · have hg0z : ¬ (s : Int) < (m : Int) := by omega
          go_wp2_with fail
          go_meet
          case rel => exact ⟨by rw [decide_eq_false (show ¬ (s < m ∧ m < e) from fun h => hg0 h.1)], rfl⟩
      case rest =>
      obtain ⟨rfl, rfl⟩ := hcut
      go_upto_if 185 with fail
      go_cut [] from 178 to 191 (fun wx => ∃ (q1 : Nat) (d1 : Array Int), d1.size = d.size ∧ Hid (wx = rw1 w blk d1 q1) ∧ Hid (∀ t, d1[t]! = d[rotI s m e t]!))
      case first =>
        by_cases hr0 : s < m ∧ m < e
        · have hrb : decide (s < m ∧ m < e) = true := decide_eq_true hr0
          have C := Lib.hid (rot_any blk cap s m e (.func (.func 54) #[] #[.pointer (some ⟨p5, 0, none⟩), .pointer (some ⟨p4, 0, none⟩)]) d _ HHr.out (by omega) (by omega) (by omega) hsz)
          go_wp2_with fail
          refine C.out.mono ?_
          rintro e1 w1 ⟨rfl, q1, d1, hw1, hz1, h1⟩
          have HW1 := Lib.hid hw1
          have H1 := Lib.hid h1
          clear hw1 h1
          go_wp2_with fail
          go_meet
          case rel => exact ⟨q + q1, d1, hz1, (show Hid _ from by show _ = _; rw [HW1.out, HW.out]; exact rw1_rw1 _ _ _ _ _ _ hz1), H1.out⟩
        · have hrb : decide (s < m ∧ m < e) = false := decide_eq_false hr0
          go_wp2_with fail
          go_meet
          case rel => exact ⟨q, d, rfl, HW, (show Hid _ from fun t => by rw [rotI_none s m e t (by omega) (by omega) (by omega)])⟩
      case rest =>
      obtain ⟨q1, d1, hz1, HW1, H1⟩ := hcut
      have RS := Lib.hid (rot_st (κ := κ) (by omega) (by omega) (by omega) hz1 H1.out CF.out.1)
      have RF := Lib.hid (rot_facts S1.out S2.out hs0 hsm hme heb hse H1.out CF.out.1 CF.out.2)
      have HH1 : Hid (Holds (Value.int .i64) wc blk 0 d1) := by rw [HW1.out]; exact rw1_holds HH.out hz1 _
      have HC1 : Hid (CR κ p5 p4 blk d1.size wc) := by rw [HW1.out, hz1]; exact HC.out.shift hz1 _
      obtain ⟨wo, rfl⟩ : ∃ wo : World, wo = wc := ⟨_, rfl⟩
      clear HHr HCr HW H1
      go_upto_region 41 with fail
      go_cut [199] from 192 to 205 (fun c wx => c = .bool (decide (a < s ∧ s < mid)) ∧ wx = wo)
      case first =>
        by_cases hg0 : a < s
        · have hg0z : (a : Int) < (s : Int) := by omega
          by_cases hg9 : s < mid
          · have hg9z : (s : Int) < (mid : Int) := by omega
            go_wp2_with fail
            go_meet
            case rel => exact ⟨by rw [decide_eq_true (show a < s ∧ s < mid from ⟨hg0, hg9⟩)], rfl⟩
          · have hg9z : ¬ (s : Int) < (mid : Int) := by omega
            go_wp2_with fail
            go_meet
            case rel => exact ⟨by rw [decide_eq_false (show ¬ (a < s ∧ s < mid) from fun h => hg9 h.2)], rfl⟩
        · have hg0z : ¬ (a : Int) < (s : Int) := by omega
          go_wp2_with fail
          go_meet
          case rel => exact ⟨by rw [decide_eq_false (show ¬ (a < s ∧ s < mid) from fun h => hg0 h.1)], rfl⟩
      case rest =>
      obtain ⟨rfl, rfl⟩ := hcut
      go_upto_if 199 with fail
      go_cut [] from 192 to 205 (fun wx => ∃ (q2 : Nat) (d2 : Array Int), d2.size = d.size ∧ Hid (wx = rw1 w blk d2 q2) ∧ Hid (St κ a mid d1 d2) ∧ Hid (srt κ a mid d2))
      case first =>
        by_cases hl1 : a < s ∧ s < mid
        · have hrb : decide (a < s ∧ s < mid) = true := decide_eq_true hl1
          have C2 := Lib.hid (HIH.out a s mid d1 _ (by omega) HH1.out HC1.out (by omega) (by omega) (by omega) (by omega) RF.out.1 RF.out.2.1)
          rw [hz1] at C2
          unfold cbv at C2
          go_wp2_with fail
          refine C2.out.mono ?_
          rintro e2 w2 ⟨rfl, q2, d2, hw2, hl2, sl2⟩
          have hz2 : d2.size = d.size := by rw [hl2.size, hz1]
          have HW2 := Lib.hid hw2
          have HL2 := Lib.hid hl2
          have SL2 := Lib.hid sl2
          clear hw2 hl2 sl2
          go_wp2_with fail
          go_meet
          case rel => exact ⟨q1 + q2, d2, hz2, (show Hid _ from by show _ = _; rw [HW2.out, HW1.out]; exact rw1_rw1 _ _ _ _ _ _ (hz2.trans hz1.symm)), HL2, SL2⟩
        · have hrb : decide (a < s ∧ s < mid) = false := decide_eq_false hl1
          go_wp2_with fail
          go_meet
          case rel =>
            refine ⟨q1, d1, hz1, HW1, St.refl κ a mid d1, ?_⟩
            show srt κ a mid d1
            by_cases hh : s = a
            · have := RF.out.2.1; rwa [hh] at this
            · have := RF.out.1; rwa [show s = mid by omega] at this
      case rest =>
      obtain ⟨q2, d2, hz2, HW2, HL2, SL2⟩ := hcut
      have SR2 := Lib.hid (HL2.out.srt_out RF.out.2.2.1 (.inr (by omega)))
      have SE2 := Lib.hid (HL2.out.srt_out RF.out.2.2.2.1 (.inr (by omega)))
      have HH2 : Hid (Holds (Value.int .i64) wc blk 0 d2) := by rw [HW2.out]; exact rw1_holds HH.out hz2 _
      have HC2 : Hid (CR κ p5 p4 blk d2.size wc) := by rw [HW2.out, hz2]; exact HC.out.shift hz2 _
      by_cases hr1 : mid < e
      · have hr1z : (mid : Int) < (e : Int) := by omega
        by_cases hr2 : e < b
        · have hr2z : (e : Int) < (b : Int) := by omega
          have C3 := Lib.hid (HIH.out mid e b d2 wc (by omega) HH2.out HC2.out (by omega) (by omega) (by omega) (by omega) SR2.out SE2.out)
          rw [hz2] at C3
          unfold cbv at C3
          go_wp2_with fail
          refine C3.out.mono ?_
          rintro e3 w3 ⟨rfl, q3, d3, hw3, hl3, sl3⟩
          have HW3 : Hid (w3 = rw1 w blk d3 (q2 + q3)) := by show _ = _; rw [hw3, HW2.out]; exact rw1_rw1 _ _ _ _ _ _ hl3.size
          have HL3 := Lib.hid hl3
          have SL3 := Lib.hid sl3
          clear hl3 sl3 hw3
          go_wp2
          go_end0
          have J := join_srt (κ := κ) (by omega) (by omega) (by omega) HL2.out SL2.out HL3.out SL3.out RF.out.2.2.2.2
          exact ⟨rfl, _, d3, HW3.out, (RS.out.mono (by omega) (by omega)).trans J.1, J.2⟩
        · have hr2z : ¬ (e : Int) < (b : Int) := by omega
          have HL3 : Hid (St κ mid b d2 d2) := St.refl κ mid b d2
          have SL3 : Hid (srt κ mid b d2) := by have := SR2.out; rwa [show e = b by omega] at this
          go_wp2
          go_end0
          have J := join_srt (κ := κ) (by omega) (by omega) (by omega) HL2.out SL2.out HL3.out SL3.out RF.out.2.2.2.2
          exact ⟨rfl, _, d2, HW2.out, (RS.out.mono (by omega) (by omega)).trans J.1, J.2⟩
      · have hr1z : ¬ (mid : Int) < (e : Int) := by omega
        have HL3 : Hid (St κ mid b d2 d2) := St.refl κ mid b d2
        have SL3 : Hid (srt κ mid b d2) := by have := SE2.out; rwa [show e = mid by omega] at this
        go_wp2
        go_end0
        have J := join_srt (κ := κ) (by omega) (by omega) (by omega) HL2.out SL2.out HL3.out SL3.out RF.out.2.2.2.2
        exact ⟨rfl, _, d2, HW2.out, (RS.out.mono (by omega) (by omega)).trans J.1, J.2⟩

set_option maxHeartbeats 16000000 in
set_option maxRecDepth 1000000 in
theorem merge_lo (κ : Int → Int) (p5 p4 blk cap L a m b : Nat) (d : Array Int) (w : World) (IH : MergeTo κ p5 p4 blk cap L) (hL : b - a ≤ L + 1) (hH : Holds (Value.int .i64) w blk 0 d) (hC : CR κ p5 p4 blk d.size w) (hb : b ≤ d.size) (ham : a + 1 < m) (hmb : m + 1 < b) (hsz : d.size ≤ 1000000) (hs1 : srt κ a m d) (hs2 : srt κ m b d) (hcase : m ≤ (a + b) / 2) :
    Calls Try.prog 67 #[.slice (some ⟨blk, 0, none⟩) d.size cap, .int .i64 a, .int .i64 m, .int .i64 b, .func (.func 54) #[] (cbv p5 p4)] w (Post κ a b d blk w) := by
  have HH : Hid (Holds (Value.int .i64) w blk 0 d) := hH
  have HS : Hid (w = rw1 w blk d 0) := (putRow_self (Value.int .i64) w blk 0 d hH).symm
  have HC : Hid (CR κ p5 p4 blk d.size w) := hC
  have S1 : Hid (srt κ a m d) := hs1
  have S2 : Hid (srt κ m b d) := hs2
  have HIH : Hid (MergeTo κ p5 p4 blk cap L) := IH
  clear hH hC hs1 hs2 IH
  unfold cbv
  have e28 : ((m : Int) - (a : Int) == 1) = false := by rw [beq_eq_false_iff_ne]; omega
  have e80 : ((b : Int) - (m : Int) == 1) = false := by rw [beq_eq_false_iff_ne]; omega
  have bz : (b : Int) ≤ 1000000 := by omega
  have hcz : decide (((a : Int) + (b : Int)) / 2 < (m : Int)) = false := decide_eq_false (by omega)
  obtain ⟨mid, hmid⟩ : ∃ mid, mid = (a + b) / 2 := ⟨_, rfl⟩
  have ez : ((a : Int) + (b : Int)) / 2 = (mid : Int) := by omega
  have EZ := Lib.hid ez
  have HMID := Lib.hid hmid
  have hm1 : a < mid := by omega
  have hm3 : 2 * mid ≤ a + b := by omega
  have hm4 : a + b ≤ 2 * mid + 1 := by omega
  have hm2 : mid < b := by omega
  have hcm : m ≤ mid := by omega
  have hlo : a ≤ a := by omega
  have hab2 : mid + m ≤ a + b := by omega
  clear ez
  go_enter Try.func67, Try.ntmps67
  go_wp2_with fail
  rw [EZ.out]
  clear hcz
  obtain ⟨n, hn⟩ : ∃ n, n = mid + m := ⟨_, rfl⟩
  obtain ⟨p, hp⟩ : ∃ p, n = p + 1 := ⟨n - 1, by omega⟩
  have en : (mid : Int) + (m : Int) = (p : Int) + 1 := by omega
  rw [en]
  have NH := Lib.hid hn
  have PH := Lib.hid hp
  clear en hmid hn hp
  have ep : (p : Int) + 1 - 1 = (p : Int) := by omega
  (try rw [ep])
  clear ep
  have hpm : p + 1 = mid + m := by rw [← PH.out, NH.out]
  go_loopg [20, 21] (b - a) (fun g vi vj wr => ∃ (s r q : Nat), vi = .int .i64 s ∧ vj = .int .i64 r ∧ a ≤ s ∧ s ≤ r ∧ r ≤ m ∧ r ≤ g + s ∧ Hid (wr = rw1 w blk d q) ∧ Hid (s = a ∨ (0 < s ∧ ¬ κ d[p - (s - 1)]! < κ d[s - 1]!)) ∧ Hid (r = m ∨ κ d[p - r]! < κ d[r]!))
  case atStart => exact ⟨a, m, 0, by first | rfl | (congr 1; omega), by first | rfl | (congr 1; omega), by omega, by omega, by omega, by omega, HS.out, .inl rfl, .inl rfl⟩
  case round =>
    obtain ⟨s, r, q, rfl, rfl, hs, hsr, hr, hg, HW, I1, I2⟩ := hrel
    have hs0 : a ≤ s := by omega
    by_cases hlt : s < r
    · have hltz : (s : Int) < (r : Int) := by omega
      have hjz : (r : Int) ≤ 1000000 := by omega
      obtain ⟨c, hc1, hc2, hc3⟩ : ∃ c : Nat, c = (s + r) / 2 ∧ s ≤ c ∧ c < r := ⟨(s + r) / 2, rfl, by omega, by omega⟩
      go_wp2_with fail
      have ez : ((s : Int) + (r : Int)) / 2 = (c : Int) := by omega
      rw [ez]
      clear ez hc1
      obtain ⟨pc, hpc⟩ : ∃ pc, pc = p - c := ⟨_, rfl⟩
      have epc : (p : Int) - (c : Int) = (pc : Int) := by omega
      obtain ⟨x, hx⟩ : ∃ x, d[pc]! = x := ⟨_, rfl⟩
      obtain ⟨y, hy⟩ : ∃ y, d[c]! = y := ⟨_, rfl⟩
      have cx := (rw1_cell HH.out rfl q pc (by omega)).1
      have cy := (rw1_cell HH.out rfl q c (by omega)).1
      rw [hx] at cx
      rw [hy] at cy
      have hc := HC.out.at_ (dk := d) rfl q x y
      rw [← HW.out] at cx cy hc
      have zx : (pc : Int) < (d.size : Int) := by omega
      have zy : (c : Int) < (d.size : Int) := by omega
      have HX := Lib.hid hx
      have HY := Lib.hid hy
      have HPC := Lib.hid hpc
      clear hx hy hpc
      by_cases hl : κ x - κ y < 0
      · go_quiet (first | (go_at_call 54; refine Calls.quiet_of (hc _)))
        go_wp2_with fail
        go_roundg (c - s)
        case measure => omega
        case rel =>
          refine ⟨s, c, q + nq, rfl, by go_num, by omega, by omega, by omega, by omega, (show Hid _ from ?_), I1, (show Hid _ from .inr ?_)⟩
          · show _ = _
            rw [HW.out]; unfold rw1; rw [World.drewN_drewN]
          · rw [← HPC.out, HX.out, HY.out]; omega
      · go_quiet (first | (go_at_call 54; refine Calls.quiet_of (hc _)))
        go_wp2_with fail
        go_roundg (r - (c + 1))
        case measure => omega
        case rel =>
          refine ⟨c + 1, r, q + nq, by go_num, rfl, by omega, by omega, by omega, by omega, (show Hid _ from ?_), (show Hid _ from .inr ⟨by omega, ?_⟩), I2⟩
          · show _ = _
            rw [HW.out]; unfold rw1; rw [World.drewN_drewN]
          · rw [Nat.add_sub_cancel, ← HPC.out, HX.out, HY.out]; omega
    · have hsr' : s = r := by omega
      subst hsr'
      have hltz : ¬ (s : Int) < (s : Int) := by omega
      obtain ⟨e, he⟩ : ∃ e, e = p + 1 - s := ⟨_, rfl⟩
      have ee : (p : Int) + 1 - (s : Int) = (e : Int) := by omega
      have hme : m ≤ e := by omega
      have heb : e ≤ b := by omega
      have hse : s + e = mid + m := by omega
      have hsm : s ≤ m := by omega
      have hsmid : s ≤ mid := by omega
      have CF := Lib.hid (cut_facts (start := s) S1.out S2.out (by omega) (by omega) hs0 hsm (by have := HMID.out; omega) (by have := HMID.out; omega) (by have := HMID.out; omega)
        (by
          have hh := HMID.out
          rw [← hh]
          rcases I1.out with h | h
          · left; exact h
          · right; right
            have h2 := h.2
            rwa [show p - (s - 1) = mid + m - s by omega] at h2)
        (by
          have hh := HMID.out
          rw [← hh]
          rcases I2.out with h | h
          · left; exact h
          · right; right
            rwa [show p - s = mid + m - 1 - s by omega] at h))
      rw [← HMID.out, show mid + m - s = e by omega] at CF
      have HE := Lib.hid he
      clear he I1 I2
      have sz : (s : Int) ≤ 1000000 := by omega
      have HHr : Hid (Holds (Value.int .i64) wr blk 0 d) := by rw [HW.out]; exact rw1_holds HH.out rfl q
      have HCr : Hid (CR κ p5 p4 blk d.size wr) := by rw [HW.out]; exact HC.out.shift rfl q
      go_upto_region 39 with fail
      (try rw [ee])
      go_cut [185] from 178 to 191 (fun c wx => c = .bool (decide (s < m ∧ m < e)) ∧ wx = wr)
      case first =>
        by_cases hg0 : s < m
        · have hg0z : (s : Int) < (m : Int) := by omega
          by_cases hg9 : m < e
          · have hg9z : (m : Int) < (e : Int) := by omega
            go_wp2_with fail
            go_meet
            case rel => exact ⟨by rw [decide_eq_true (show s < m ∧ m < e from ⟨hg0, hg9⟩)], rfl⟩
          · have hg9z : ¬ (m : Int) < (e : Int) := by omega
            go_wp2_with fail
            go_meet
            case rel => exact ⟨by rw [decide_eq_false (show ¬ (s < m ∧ m < e) from fun h => hg9 h.2)], rfl⟩
        · have hg0z : ¬ (s : Int) < (m : Int) := by omega
          go_wp2_with fail
          go_meet
          case rel => exact ⟨by rw [decide_eq_false (show ¬ (s < m ∧ m < e) from fun h => hg0 h.1)], rfl⟩
      case rest =>
      obtain ⟨rfl, rfl⟩ := hcut
      go_upto_if 185 with fail
      go_cut [] from 178 to 191 (fun wx => ∃ (q1 : Nat) (d1 : Array Int), d1.size = d.size ∧ Hid (wx = rw1 w blk d1 q1) ∧ Hid (∀ t, d1[t]! = d[rotI s m e t]!))
      case first =>
        by_cases hr0 : s < m ∧ m < e
        · have hrb : decide (s < m ∧ m < e) = true := decide_eq_true hr0
          have C := Lib.hid (rot_any blk cap s m e (.func (.func 54) #[] #[.pointer (some ⟨p5, 0, none⟩), .pointer (some ⟨p4, 0, none⟩)]) d _ HHr.out (by omega) (by omega) (by omega) hsz)
          go_wp2_with fail
          refine C.out.mono ?_
          rintro e1 w1 ⟨rfl, q1, d1, hw1, hz1, h1⟩
          have HW1 := Lib.hid hw1
          have H1 := Lib.hid h1
          clear hw1 h1
          go_wp2_with fail
          go_meet
          case rel => exact ⟨q + q1, d1, hz1, (show Hid _ from by show _ = _; rw [HW1.out, HW.out]; exact rw1_rw1 _ _ _ _ _ _ hz1), H1.out⟩
        · have hrb : decide (s < m ∧ m < e) = false := decide_eq_false hr0
          go_wp2_with fail
          go_meet
          case rel => exact ⟨q, d, rfl, HW, (show Hid _ from fun t => by rw [rotI_none s m e t (by omega) (by omega) (by omega)])⟩
      case rest =>
      obtain ⟨q1, d1, hz1, HW1, H1⟩ := hcut
      have RS := Lib.hid (rot_st (κ := κ) (by omega) (by omega) (by omega) hz1 H1.out CF.out.1)
      have RF := Lib.hid (rot_facts S1.out S2.out hs0 hsm hme heb hse H1.out CF.out.1 CF.out.2)
      have HH1 : Hid (Holds (Value.int .i64) wc blk 0 d1) := by rw [HW1.out]; exact rw1_holds HH.out hz1 _
      have HC1 : Hid (CR κ p5 p4 blk d1.size wc) := by rw [HW1.out, hz1]; exact HC.out.shift hz1 _
      obtain ⟨wo, rfl⟩ : ∃ wo : World, wo = wc := ⟨_, rfl⟩
      clear HHr HCr HW H1
      go_upto_region 41 with fail
      go_cut [199] from 192 to 205 (fun c wx => c = .bool (decide (a < s ∧ s < mid)) ∧ wx = wo)
      case first =>
        by_cases hg0 : a < s
        · have hg0z : (a : Int) < (s : Int) := by omega
          by_cases hg9 : s < mid
          · have hg9z : (s : Int) < (mid : Int) := by omega
            go_wp2_with fail
            go_meet
            case rel => exact ⟨by rw [decide_eq_true (show a < s ∧ s < mid from ⟨hg0, hg9⟩)], rfl⟩
          · have hg9z : ¬ (s : Int) < (mid : Int) := by omega
            go_wp2_with fail
            go_meet
            case rel => exact ⟨by rw [decide_eq_false (show ¬ (a < s ∧ s < mid) from fun h => hg9 h.2)], rfl⟩
        · have hg0z : ¬ (a : Int) < (s : Int) := by omega
          go_wp2_with fail
          go_meet
          case rel => exact ⟨by rw [decide_eq_false (show ¬ (a < s ∧ s < mid) from fun h => hg0 h.1)], rfl⟩
      case rest =>
      obtain ⟨rfl, rfl⟩ := hcut
      go_upto_if 199 with fail
      go_cut [] from 192 to 205 (fun wx => ∃ (q2 : Nat) (d2 : Array Int), d2.size = d.size ∧ Hid (wx = rw1 w blk d2 q2) ∧ Hid (St κ a mid d1 d2) ∧ Hid (srt κ a mid d2))
      case first =>
        by_cases hl1 : a < s ∧ s < mid
        · have hrb : decide (a < s ∧ s < mid) = true := decide_eq_true hl1
          have C2 := Lib.hid (HIH.out a s mid d1 _ (by omega) HH1.out HC1.out (by omega) (by omega) (by omega) (by omega) RF.out.1 RF.out.2.1)
          rw [hz1] at C2
          unfold cbv at C2
          go_wp2_with fail
          refine C2.out.mono ?_
          rintro e2 w2 ⟨rfl, q2, d2, hw2, hl2, sl2⟩
          have hz2 : d2.size = d.size := by rw [hl2.size, hz1]
          have HW2 := Lib.hid hw2
          have HL2 := Lib.hid hl2
          have SL2 := Lib.hid sl2
          clear hw2 hl2 sl2
          go_wp2_with fail
          go_meet
          case rel => exact ⟨q1 + q2, d2, hz2, (show Hid _ from by show _ = _; rw [HW2.out, HW1.out]; exact rw1_rw1 _ _ _ _ _ _ (hz2.trans hz1.symm)), HL2, SL2⟩
        · have hrb : decide (a < s ∧ s < mid) = false := decide_eq_false hl1
          go_wp2_with fail
          go_meet
          case rel =>
            refine ⟨q1, d1, hz1, HW1, St.refl κ a mid d1, ?_⟩
            show srt κ a mid d1
            by_cases hh : s = a
            · have := RF.out.2.1; rwa [hh] at this
            · have := RF.out.1; rwa [show s = mid by omega] at this
      case rest =>
      obtain ⟨q2, d2, hz2, HW2, HL2, SL2⟩ := hcut
      have SR2 := Lib.hid (HL2.out.srt_out RF.out.2.2.1 (.inr (by omega)))
      have SE2 := Lib.hid (HL2.out.srt_out RF.out.2.2.2.1 (.inr (by omega)))
      have HH2 : Hid (Holds (Value.int .i64) wc blk 0 d2) := by rw [HW2.out]; exact rw1_holds HH.out hz2 _
      have HC2 : Hid (CR κ p5 p4 blk d2.size wc) := by rw [HW2.out, hz2]; exact HC.out.shift hz2 _
      by_cases hr1 : mid < e
      · have hr1z : (mid : Int) < (e : Int) := by omega
        by_cases hr2 : e < b
        · have hr2z : (e : Int) < (b : Int) := by omega
          have C3 := Lib.hid (HIH.out mid e b d2 wc (by omega) HH2.out HC2.out (by omega) (by omega) (by omega) (by omega) SR2.out SE2.out)
          rw [hz2] at C3
          unfold cbv at C3
          go_wp2_with fail
          refine C3.out.mono ?_
          rintro e3 w3 ⟨rfl, q3, d3, hw3, hl3, sl3⟩
          have HW3 : Hid (w3 = rw1 w blk d3 (q2 + q3)) := by show _ = _; rw [hw3, HW2.out]; exact rw1_rw1 _ _ _ _ _ _ hl3.size
          have HL3 := Lib.hid hl3
          have SL3 := Lib.hid sl3
          clear hl3 sl3 hw3
          go_wp2
          go_end0
          have J := join_srt (κ := κ) (by omega) (by omega) (by omega) HL2.out SL2.out HL3.out SL3.out RF.out.2.2.2.2
          exact ⟨rfl, _, d3, HW3.out, (RS.out.mono (by omega) (by omega)).trans J.1, J.2⟩
        · have hr2z : ¬ (e : Int) < (b : Int) := by omega
          have HL3 : Hid (St κ mid b d2 d2) := St.refl κ mid b d2
          have SL3 : Hid (srt κ mid b d2) := by have := SR2.out; rwa [show e = b by omega] at this
          go_wp2
          go_end0
          have J := join_srt (κ := κ) (by omega) (by omega) (by omega) HL2.out SL2.out HL3.out SL3.out RF.out.2.2.2.2
          exact ⟨rfl, _, d2, HW2.out, (RS.out.mono (by omega) (by omega)).trans J.1, J.2⟩
      · have hr1z : ¬ (mid : Int) < (e : Int) := by omega
        have HL3 : Hid (St κ mid b d2 d2) := St.refl κ mid b d2
        have SL3 : Hid (srt κ mid b d2) := by have := SE2.out; rwa [show e = mid by omega] at this
        go_wp2
        go_end0
        have J := join_srt (κ := κ) (by omega) (by omega) (by omega) HL2.out SL2.out HL3.out SL3.out RF.out.2.2.2.2
        exact ⟨rfl, _, d2, HW2.out, (RS.out.mono (by omega) (by omega)).trans J.1, J.2⟩

theorem merge_any (κ : Int → Int) (p5 p4 blk cap : Nat) : ∀ L, MergeTo κ p5 p4 blk cap L := by
  intro L
  induction L with
  | zero => intro a m b d w hL hH hC hb ham hmb hsz h1 h2; omega
  | succ L ih =>
    intro a m b d w hL hH hC hb ham hmb hsz h1 h2
    by_cases e1 : m = a + 1
    · subst e1
      exact merge_one κ p5 p4 blk cap a b d w hH hC hb hmb hsz h2
    · by_cases e2 : b = m + 1
      · subst e2
        exact merge_last κ p5 p4 blk cap a m d w hH hC (by omega) (by omega) hsz h1
      · by_cases e3 : (a + b) / 2 < m
        · exact merge_hi κ p5 p4 blk cap L a m b d w ih hL hH hC hb (by omega) (by omega) hsz h1 h2 e3
        · exact merge_lo κ p5 p4 blk cap L a m b d w ih hL hH hC hb (by omega) (by omega) hsz h1 h2 (by omega)
end Go.Proofs.Ytpnlhkpibgngbaa
