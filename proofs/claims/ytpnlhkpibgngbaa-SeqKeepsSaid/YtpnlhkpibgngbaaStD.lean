/- The library's stable sort at ints, by Order's closure: each key's own order kept, the keys in order. -/
import Derived.Test.YtpnlhkpibgngbaaStC
import Derived.Test.YtpnlhkpibgngbaaStL
set_option linter.unusedSimpArgs false
set_option linter.unusedVariables false
namespace Go.Proofs.Ytpnlhkpibgngbaa
open Go.RowKit Go.Sort Go.Proofs

/-- The kit's insertion sort's contract at Order's closure. -/
def CK (κ : Int → Int) (p5 p4 blk N : Nat) (w : World) : Prop := CmpReads Try.prog 54 (cbv p5 p4) (Value.int .i64) (fun x y => κ x - κ y) blk 0 N w
theorem CK.cr {κ : Int → Int} {p5 p4 blk N : Nat} {w : World} (h : CK κ p5 p4 blk N w) : CR κ p5 p4 blk N w := fun m dk hs x y => by
  have := h m #[] dk hs x y
  rw [sortWorld_none] at this
  exact this
theorem CK.shift {κ : Int → Int} {p5 p4 blk N : Nat} {w : World} (h : CK κ p5 p4 blk N w) {d : Array Int} (hs : d.size = N) (q : Nat) : CK κ p5 p4 blk N (rw1 w blk d q) := fun m os dk hk x y => by
  have e : sortWorld (Value.int .i64) (rw1 w blk d q) blk 0 m dk os = sortWorld (Value.int .i64) w blk 0 (q + m) dk os := by
    have e0 : Sort.ahead (rw1 w blk d q) m = putRow (Value.int .i64) (Sort.ahead w (q + m)) blk 0 d := by
      show World.mk .. = World.mk ..
      simp [rw1, Sort.ahead, World.drewN, putRow, mapBlock, Nat.add_assoc]
    unfold sortWorld
    rw [e0, putRow_putRow _ _ _ _ _ _ (hk.trans hs.symm)]
  rw [e]
  exact h (q + m) os dk hk x y
theorem ins_any (κ : Int → Int) (p5 p4 blk cap a b : Nat) (d : Array Int) (w : World) (hH : Holds (Value.int .i64) w blk 0 d) (hC : CK κ p5 p4 blk d.size w) (hab : a ≤ b) (hb : b ≤ d.size) (hsz : d.size ≤ 1000000) :
    Calls Try.prog 66 #[.slice (some ⟨blk, 0, none⟩) d.size cap, .int .i64 a, .int .i64 b, .func (.func 54) #[] (cbv p5 p4)] w (Post κ a b d blk w) := by
  have h := Any.insertionSortCmpFunc_one Try.laysF20 (Value.int .i64) (fun _ => rfl) (fun x y => κ x - κ y) 54 (cbv p5 p4) blk 0 cap a b d w (enters_of Try.func54 (by kernel_rfl) rfl) hC hH hab hb (by omega)
  change Calls Try.prog 66 _ _ _ at h
  refine h.mono ?_
  rintro e w' ⟨rfl, n, rfl⟩
  exact ⟨rfl, n, _, rfl, ins_st a b d hb, ins_srt a b d hb⟩

/-- Runs of bs: what lies in one block is in order. -/
def runs (κ : Int → Int) (bs lo hi : Nat) (d : Array Int) : Prop := ∀ i j, lo ≤ i → i < j → j < hi → i / bs = j / bs → κ d[i]! ≤ κ d[j]!
theorem div_seg {c bs i : Nat} (h1 : c * bs ≤ i) (h2 : i < c * bs + bs) : i / bs = c := by
  have hb : 0 < bs := by omega
  refine Nat.div_eq_of_lt_le h1 ?_
  rw [Nat.succ_mul]
  exact h2
theorem runs_seg {κ : Int → Int} {bs lo hi c : Nat} {d : Array Int} (h : runs κ bs lo hi d) (e : Nat) (h1 : lo ≤ c * bs) (h2 : e ≤ hi) (h3 : e ≤ c * bs + bs) : srt κ (c * bs) e d := fun i j hi1 hij hj =>
  h i j (by omega) hij (by omega) (by rw [div_seg (c := c) (by omega) (by omega), div_seg (c := c) (by omega) (by omega)])
theorem div_low {c bs i : Nat} (hb : 0 < bs) (h : i < c * bs) : i / bs < c := (Nat.div_lt_iff_lt_mul hb).2 h
/-- A block more. -/
theorem runs_more {κ : Int → Int} {bs c : Nat} {d d' : Array Int} (hb : 0 < bs) (e : Nat) (h : runs κ bs 0 (c * bs) d) (hs : St κ (c * bs) e d d') (he : e ≤ c * bs + bs) (hs2 : srt κ (c * bs) e d') : runs κ bs 0 e d' := by
  intro i j _ hij hj hd
  by_cases h1 : j < c * bs
  · rw [hs.out i (by omega), hs.out j (by omega)]; exact h i j (Nat.zero_le _) hij h1 hd
  · by_cases h2 : c * bs ≤ i
    · exact hs2 i j h2 hij hj
    · have := div_low hb (show i < c * bs by omega)
      rw [hd, div_seg (c := c) (by omega) (by omega)] at this
      omega
theorem runs_keep {κ : Int → Int} {bs a b hi : Nat} {d d' : Array Int} (h : runs κ bs b hi d) (hs : St κ a b d d') : runs κ bs b hi d' := by
  intro i j h1 hij hj hd
  rw [hs.out i (by omega), hs.out j (by omega)]; exact h i j h1 hij hj hd

set_option maxHeartbeats 16000000 in
set_option maxRecDepth 1000000 in
theorem stable_any (κ : Int → Int) (p5 p4 blk cap : Nat) (d : Array Int) (w : World) (hH : Holds (Value.int .i64) w blk 0 d) (hC : CK κ p5 p4 blk d.size w) (hsz : d.size ≤ 1000000) :
    Calls Try.prog 62 #[.slice (some ⟨blk, 0, none⟩) d.size cap, .int .i64 d.size, .func (.func 54) #[] (cbv p5 p4)] w (Post κ 0 d.size d blk w) := by
  have HH : Hid (Holds (Value.int .i64) w blk 0 d) := hH
  have HS : Hid (w = rw1 w blk d 0) := (putRow_self (Value.int .i64) w blk 0 d hH).symm
  have HC : Hid (CK κ p5 p4 blk d.size w) := hC
  clear hH hC
  have INS : Hid (∀ (a b : Nat) (dk : Array Int) (wr : World), Holds (Value.int .i64) wr blk 0 dk → CK κ p5 p4 blk dk.size wr → a ≤ b → b ≤ dk.size → dk.size ≤ 1000000 → Calls Try.prog 66 #[.slice (some ⟨blk, 0, none⟩) dk.size cap, .int .i64 a, .int .i64 b, .func (.func 54) #[] #[.pointer (some ⟨p5, 0, none⟩), .pointer (some ⟨p4, 0, none⟩)]] wr (Post κ a b dk blk wr)) :=
    fun a b dk wr h1 h2 h3 h4 h5 => ins_any κ p5 p4 blk cap a b dk wr h1 h2 h3 h4 h5
  have MRG : Hid (∀ (a m b : Nat) (dk : Array Int) (wr : World), Holds (Value.int .i64) wr blk 0 dk → CK κ p5 p4 blk dk.size wr → b ≤ dk.size → a < m → m < b → dk.size ≤ 1000000 → srt κ a m dk → srt κ m b dk → Calls Try.prog 67 #[.slice (some ⟨blk, 0, none⟩) dk.size cap, .int .i64 a, .int .i64 m, .int .i64 b, .func (.func 54) #[] #[.pointer (some ⟨p5, 0, none⟩), .pointer (some ⟨p4, 0, none⟩)]] wr (Post κ a b dk blk wr)) :=
    fun a m b dk wr h1 h2 h3 h4 h5 h6 h7 h8 => merge_any κ p5 p4 blk cap (b - a) a m b dk wr (Nat.le_refl _) h1 h2.cr h3 h4 h5 h6 h7 h8
  unfold cbv
  have nz : (d.size : Int) ≤ 1000000 := by omega
  go_enter Try.func62, Try.ntmps62
  go_wp2_with fail
  go_loopg [7, 8] (d.size + 1) (fun g va vb wr => ∃ (c a q : Nat) (dk : Array Int), Hid (a = c * 20) ∧ va = .int .i64 a ∧ vb = .int .i64 ((a : Int) + 20) ∧ a ≤ d.size ∧ d.size + 1 ≤ g + a ∧ dk.size = d.size ∧ Hid (wr = rw1 w blk dk q) ∧ Hid (St κ 0 d.size d dk) ∧ Hid (runs κ 20 0 a dk))
  case atStart => exact ⟨0, 0, 0, d, rfl, rfl, rfl, by omega, by omega, rfl, HS.out, St.refl κ 0 d.size d, fun i j h1 h2 h3 => by omega⟩
  case round =>
    obtain ⟨c, a, q, dk, HA, rfl, rfl, hcn, hg, hds, HW, HST, HR⟩ := hrel
    have HHk : Hid (Holds (Value.int .i64) wr blk 0 dk) := by rw [HW.out]; exact rw1_holds HH.out hds q
    have HCk : Hid (CK κ p5 p4 blk dk.size wr) := by rw [HW.out, hds]; exact HC.out.shift hds q
    by_cases hlt : a + 20 ≤ d.size
    · have hz : (a : Int) + 20 ≤ (d.size : Int) := by omega
      have C := Lib.hid (INS.out a (a + 20) dk wr HHk.out HCk.out (by omega) (by omega) (by omega))
      rw [hds, show ((a + 20 : Nat) : Int) = (a : Int) + 20 by omega] at C
      go_wp2_with fail
      refine C.out.mono ?_
      rintro e w1 ⟨rfl, q1, d1, hw1, hs1, hr1⟩
      have HW1 := Lib.hid hw1
      have HS1 := Lib.hid hs1
      have HR1 := Lib.hid hr1
      clear hw1 hs1 hr1
      go_wp2_with fail
      go_roundg (gk - 20)
      case measure => omega
      case rel =>
        have hz1 : d1.size = d.size := HS1.out.size.trans hds
        refine ⟨c + 1, a + 20, q + q1, d1, (show Hid _ from by show _ = _; have := HA.out; omega), by go_num, by go_num, hlt, by omega, hz1, (show Hid _ from by show _ = _; rw [HW1.out, HW.out]; exact rw1_rw1 _ _ _ _ _ _ (hz1.trans hds.symm)), HST.out.trans (HS1.out.mono (Nat.zero_le _) hlt), (show Hid _ from ?_)⟩
        have hA := HA.out
        subst hA
        exact runs_more (by omega) _ HR.out HS1.out (Nat.le_refl _) HR1.out
    · have hz : ¬ (a : Int) + 20 ≤ (d.size : Int) := by omega
      have C := Lib.hid (INS.out a d.size dk wr HHk.out HCk.out (by omega) (by omega) (by omega))
      rw [hds] at C
      go_wp2_with fail
      refine C.out.mono ?_
      rintro e w1 ⟨rfl, q1, d1, hw1, hs1, hr1⟩
      have hz1 : d1.size = d.size := hs1.size.trans hds
      have HW1 : Hid (w1 = rw1 w blk d1 (q + q1)) := by show _ = _; rw [hw1, HW.out]; exact rw1_rw1 _ _ _ _ _ _ (hz1.trans hds.symm)
      have HS1 : Hid (St κ 0 d.size d d1) := HST.out.trans (hs1.mono (Nat.zero_le _) (Nat.le_refl _))
      have HR1 : Hid (runs κ 20 0 d.size d1) := by
        have hA := HA.out
        subst hA
        exact runs_more (by omega) _ HR.out hs1 (by omega) hr1
      clear hw1 hs1 hr1 C HHk HCk HW HST HR
      go_wp2_with fail
      obtain ⟨wo, rfl⟩ : ∃ wo : World, wo = wr := ⟨_, rfl⟩
      go_loopg [6, 7, 8, 9] (d.size + 1) (fun g v6 v7 v8 v9 wr => ∃ (bs q : Nat) (dk : Array Int), v6 = .int .i64 bs ∧ 20 ≤ bs ∧ bs ≤ 2000000 ∧ d.size + 1 ≤ g + bs ∧ dk.size = d.size ∧ Hid (wr = rw1 w blk dk q) ∧ Hid (St κ 0 d.size d dk) ∧ Hid (runs κ bs 0 d.size dk))
      case atStart => exact ⟨20, q + q1, d1, rfl, by omega, by omega, by omega, hz1, HW1, HS1, HR1⟩
      case round =>
        obtain ⟨bs, q, dk, rfl, hb1, hb2, hg, hds, HW, HST, HR⟩ := hrel
        clear HW1 HS1 HR1 hz1 hz HA
        by_cases hlt : bs < d.size
        · have hz : (bs : Int) < (d.size : Int) := by omega
          have bz : (bs : Int) ≤ 2000000 := by omega
          go_wp2_with fail
          obtain ⟨b2, hb2'⟩ : ∃ b2, b2 = 2 * bs := ⟨_, rfl⟩
          have eb2 : (2 : Int) * (bs : Int) = (b2 : Int) := by omega
          (try rw [eb2])
          have HB2 := Lib.hid hb2'
          have hb2a : b2 ≤ 2 * bs := by omega
          have hb2b : 2 * bs ≤ b2 := by omega
          clear hb2'
          obtain ⟨wo2, rfl⟩ : ∃ wo2 : World, wo2 = wr := ⟨_, rfl⟩
          obtain ⟨go, hgo⟩ : ∃ go, go = gk := ⟨_, rfl⟩
          subst hgo
          go_loopg [7, 8] (d.size + 1) (fun g va vb wr => ∃ (c a q : Nat) (dk : Array Int), Hid (a = c * b2) ∧ va = .int .i64 a ∧ vb = .int .i64 ((a : Int) + (b2 : Int)) ∧ a ≤ d.size ∧ d.size + 1 ≤ g + a ∧ dk.size = d.size ∧ Hid (wr = rw1 w blk dk q) ∧ Hid (St κ 0 d.size d dk) ∧ Hid (runs κ b2 0 a dk) ∧ Hid (runs κ bs a d.size dk))
          case atStart => exact ⟨0, 0, q, dk, (show Hid _ from by show _ = _; omega), rfl, by first | rfl | (congr 1; omega), by omega, by omega, hds, HW, HST, (fun i j h1 h2 h3 => by omega), HR.out⟩
          case round =>
            obtain ⟨c, a, q, dk, HA, rfl, rfl, hcn, hg2, hds, HW, HST, HR1, HR2⟩ := hrel
            clear HR
            have HHk : Hid (Holds (Value.int .i64) wr blk 0 dk) := by rw [HW.out]; exact rw1_holds HH.out hds q
            have HCk : Hid (CK κ p5 p4 blk dk.size wr) := by rw [HW.out, hds]; exact HC.out.shift hds q
            have hA2 : Hid (a = (2 * c) * bs ∧ a + bs = (2 * c + 1) * bs) := by
              have h := HA.out
              rw [HB2.out] at h
              constructor
              · rw [h, ← Nat.mul_assoc, Nat.mul_comm c 2]
              · rw [Nat.succ_mul, h, ← Nat.mul_assoc, Nat.mul_comm c 2]
            by_cases hlt2 : a + b2 ≤ d.size
            · have hz2 : (a : Int) + (b2 : Int) ≤ (d.size : Int) := by omega
              have C := Lib.hid (MRG.out a (a + bs) (a + b2) dk wr HHk.out HCk.out (by omega) (by omega) (by omega) (by omega)
                (by have h := hA2.out; have := runs_seg (c := 2 * c) HR2.out (a + bs) (by omega) (by omega) (by omega); rwa [← h.1] at this)
                (by have h := hA2.out; have := runs_seg (c := 2 * c + 1) HR2.out (a + b2) (by omega) (by omega) (by omega); rwa [← h.2] at this))
              rw [hds, show ((a + bs : Nat) : Int) = (a : Int) + (bs : Int) by omega, show ((a + b2 : Nat) : Int) = (a : Int) + (b2 : Int) by omega] at C
              go_wp2_with fail
              refine C.out.mono ?_
              rintro e w1 ⟨rfl, q1, d1, hw1, hs1, hr1⟩
              have HW1 := Lib.hid hw1
              have HS1 := Lib.hid hs1
              have HR1' := Lib.hid hr1
              clear hw1 hs1 hr1
              go_wp2_with fail
              go_roundg (gk - 1)
              case measure => omega
              case rel =>
                have hz1 : d1.size = d.size := HS1.out.size.trans hds
                refine ⟨c + 1, a + b2, q + q1, d1, (show Hid _ from by show _ = _; rw [Nat.succ_mul, HA.out]), by first | rfl | go_num, by first | rfl | (congr 1; omega), hlt2, by omega, hz1, (show Hid _ from by show _ = _; rw [HW1.out, HW.out]; exact rw1_rw1 _ _ _ _ _ _ (hz1.trans hds.symm)), HST.out.trans (HS1.out.mono (Nat.zero_le _) hlt2), (show Hid _ from ?_), (show Hid _ from ?_)⟩
                · have hA := HA.out
                  subst hA
                  exact runs_more (by omega) _ HR1.out HS1.out (Nat.le_refl _) HR1'.out
                · exact runs_keep (fun i j h1 h2 h3 h4 => HR2.out i j (by omega) h2 h3 h4) HS1.out
            · have hz2 : ¬ (a : Int) + (b2 : Int) ≤ (d.size : Int) := by omega
              by_cases hm : a + bs < d.size
              · have hmz : (a : Int) + (bs : Int) < (d.size : Int) := by omega
                have C := Lib.hid (MRG.out a (a + bs) d.size dk wr HHk.out HCk.out (by omega) (by omega) (by omega) (by omega)
                  (by have h := hA2.out; have := runs_seg (c := 2 * c) HR2.out (a + bs) (by omega) (by omega) (by omega); rwa [← h.1] at this)
                  (by have h := hA2.out; have := runs_seg (c := 2 * c + 1) HR2.out d.size (by omega) (by omega) (by omega); rwa [← h.2] at this))
                rw [hds, show ((a + bs : Nat) : Int) = (a : Int) + (bs : Int) by omega] at C
                go_wp2_with fail
                refine C.out.mono ?_
                rintro e w1 ⟨rfl, q1, d1, hw1, hs1, hr1⟩
                have HW1 := Lib.hid hw1
                have HS1 := Lib.hid hs1
                have HR1' := Lib.hid hr1
                clear hw1 hs1 hr1
                go_wp2_with fail
                go_roundg (go - 1)
                case measure => omega
                case rel =>
                  have hz1 : d1.size = d.size := HS1.out.size.trans hds
                  refine ⟨b2, q + q1, d1, by first | rfl | (congr 1; omega), by omega, by omega, by omega, hz1, (show Hid _ from by show _ = _; rw [HW1.out, HW.out]; exact rw1_rw1 _ _ _ _ _ _ (hz1.trans hds.symm)), HST.out.trans (HS1.out.mono (Nat.zero_le _) (Nat.le_refl _)), (show Hid _ from ?_)⟩
                  have hA := HA.out
                  subst hA
                  exact runs_more (by omega) _ HR1.out HS1.out (by omega) HR1'.out
              · have hmz : ¬ (a : Int) + (bs : Int) < (d.size : Int) := by omega
                go_wp2_with fail
                go_roundg (go - 1)
                case measure => omega
                case rel =>
                  refine ⟨b2, q, dk, by first | rfl | (congr 1; omega), by omega, by omega, by omega, hds, HW, HST, (show Hid _ from ?_)⟩
                  have h := hA2.out
                  have hseg := runs_seg (c := 2 * c) HR2.out d.size (by omega) (Nat.le_refl _) (by omega)
                  rw [← h.1] at hseg
                  have hA := HA.out
                  subst hA
                  exact runs_more (by omega) _ HR1.out (St.refl κ _ _ dk) (by omega) hseg
        · have hz : ¬ (bs : Int) < (d.size : Int) := by omega
          go_wp2
          go_end0
          refine ⟨rfl, q, dk, HW.out, HST.out, fun i j h1 h2 h3 => HR.out i j h1 h2 h3 ?_⟩
          rw [Nat.div_eq_of_lt (by omega), Nat.div_eq_of_lt (by omega)]
end Go.Proofs.Ytpnlhkpibgngbaa
