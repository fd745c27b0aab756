/- Texts put together: WaE0, WaE. -/
import Derived.Test.YtfagfkfcokmclaaGreatDoorZMgA
import Derived.Laws.BitsAllLaws
import Derived.Test.YtfagfkfcokmclaaGreatDoorZWaD
import Derived.Deep.Cut
import Derived.Deep.CutRange
section
set_option linter.unusedSimpArgs false
set_option linter.unusedVariables false
namespace Go.Proofs.YtfagfkfcokmclaaGreatDoor

theorem or_hi (r T b : Nat) (hb : b < 2) (hT : T = 2 * r + b) (h : T < 340282366920938463463374607431768211456) : bits .or .u64 (IntKind.u64.wrap (((hiN r : Nat) : Int) * 2)) (((loN r : Nat) : Int) / 9223372036854775808) = ((hiN T : Nat) : Int) := by
  subst hT
  obtain ⟨h1, h2, h3, h4⟩ := twice_parts hb h
  have e1 : IntKind.u64.wrap (((hiN r : Nat) : Int) * 2) = ((hiN r * 2 % 18446744073709551616 : Nat) : Int) := by rw [IntKind.wrap_u64]; omega
  have e2 : ((loN r : Nat) : Int) / 9223372036854775808 = ((loN r / 9223372036854775808 : Nat) : Int) := by omega
  rw [e1, e2, u64_or_nat _ _ (by omega) (by omega), nat_join 1 _ _ (by simp) (by simpa using h4), h1]
theorem or_lo (r T b : Nat) (hb : b < 2) (hT : T = 2 * r + b) (h : T < 340282366920938463463374607431768211456) : bits .or .u64 (IntKind.u64.wrap (((loN r : Nat) : Int) * 2)) ((b : Nat) : Int) = ((loN T : Nat) : Int) := by
  subst hT
  obtain ⟨h1, h2, h3, h4⟩ := twice_parts hb h
  have e1 : IntKind.u64.wrap (((loN r : Nat) : Int) * 2) = ((loN r * 2 % 18446744073709551616 : Nat) : Int) := by rw [IntKind.wrap_u64]; omega
  rw [e1, u64_or_nat _ _ (by omega) (by omega), nat_join 1 _ _ (by simp) (by simpa using hb), h2]
theorem lo_two (q : Nat) : IntKind.u64.wrap (((loN q : Nat) : Int) * 2) = ((loN (2 * q) : Nat) : Int) := by
  rw [IntKind.wrap_u64]
  unfold loN
  omega
theorem or_lo2 (r T b : Nat) (hb : b < 2) (hT : T = 2 * r + b) (h : T < 340282366920938463463374607431768211456) : bits .or .u64 ((loN (2 * r) : Nat) : Int) ((b : Nat) : Int) = ((loN T : Nat) : Int) := by
  rw [← lo_two]
  exact or_lo r T b hb hT h
theorem hi_one (q : Nat) : hiN (2 * q + 1) = hiN (2 * q) := by unfold hiN; omega
theorem or_one (q : Nat) : bits .or .u64 ((loN (2 * q) : Nat) : Int) 1 = ((loN (2 * q + 1) : Nat) : Int) := by
  have hl := lo_lt (2 * q)
  have e := u64_or_nat (loN (2 * q)) 1 hl (by omega)
  rw [nat_join 1 _ _ (by unfold loN; simp) (by simp)] at e
  refine e.trans ?_
  unfold loN
  omega
theorem bit_hi (m i b : Nat) (hm : m < 340282366920938463463374607431768211456) (h1 : 64 ≤ i) (h2 : i < 128) (hb : b = m / 2 ^ i % 2) : bits .and .u64 (((hiN m : Nat) : Int) / 2 ^ (i - 64)) 1 = ((b : Nat) : Int) := by
  have e1 : (((hiN m : Nat) : Int) / 2 ^ (i - 64)) = ((hiN m / 2 ^ (i - 64) : Nat) : Int) := by simp
  have hl := hi_lt hm
  have hle : hiN m / 2 ^ (i - 64) ≤ hiN m := Nat.div_le_self _ _
  have e := u64_and_nat (hiN m / 2 ^ (i - 64)) 1 (by omega) (by omega)
  rw [e1]
  refine e.trans ?_
  rw [nat_mask1, hb]
  unfold hiN
  rw [Nat.div_div_eq_div_mul]
  have : 18446744073709551616 * 2 ^ (i - 64) = 2 ^ i := by
    have h64 : (18446744073709551616 : Nat) = 2 ^ 64 := by decide
    rw [h64, ← Nat.pow_add]
    congr 1
    omega
  rw [this]
theorem bit_lo (m i b : Nat) (h2 : i < 64) (hb : b = m / 2 ^ i % 2) : bits .and .u64 (((loN m : Nat) : Int) / 2 ^ i) 1 = ((b : Nat) : Int) := by
  have e1 : (((loN m : Nat) : Int) / 2 ^ i) = ((loN m / 2 ^ i : Nat) : Int) := by simp
  have hl := lo_lt m
  have hle : loN m / 2 ^ i ≤ loN m := Nat.div_le_self _ _
  have e := u64_and_nat (loN m / 2 ^ i) 1 (by omega) (by omega)
  rw [e1]
  refine e.trans ?_
  rw [nat_mask1, hb]
  congr 1
  unfold loN
  have h64 : (18446744073709551616 : Nat) = 2 ^ i * 2 ^ (64 - i) := by
    rw [← Nat.pow_add, show i + (64 - i) = 64 by omega]
  rw [h64, Nat.mod_mul_right_div_self]
  have : 2 ^ (64 - i) = 2 * 2 ^ (63 - i) := by rw [← Nat.pow_succ']; congr 1; omega
  rw [this, Nat.mod_mul_right_mod]
theorem bit_step (m i : Nat) : m / 2 ^ i = 2 * (m / 2 ^ (i + 1)) + m / 2 ^ i % 2 := by
  rw [Nat.pow_succ, ← Nat.div_div_eq_div_mul]
  omega
end Go.Proofs.YtfagfkfcokmclaaGreatDoor
end
section
set_option linter.unusedSimpArgs false
set_option linter.unusedVariables false
namespace Go.Proofs.YtfagfkfcokmclaaGreatDoor
open Go.RowKit

/-- What stands in memory while the long division runs. -/
structure Ov (S bq br : Nat) (n1 n2 nq : Bool) (m d q r : Nat) (w wr : World) : Prop where
  b0 : Blk wr S #[.bool n1, .int .u64 ((hiN m : Nat) : Int), .int .u64 ((loN m : Nat) : Int)] 170
  b1 : Blk wr (S + 1) #[.bool n2, .int .u64 ((hiN d : Nat) : Int), .int .u64 ((loN d : Nat) : Int)] 170
  b2 : Blk wr (S + 1 + 1) #[.bool false, .int .u64 0, .int .u64 0] 170
  b3 : Blk wr (S + 1 + 1 + 1) #[.bool false, .int .u64 0, .int .u64 0] 170
  b4 : Blk wr bq #[.bool nq, .int .u64 ((hiN q : Nat) : Int), .int .u64 ((loN q : Nat) : Int)] 170
  b5 : Blk wr br #[.bool n1, .int .u64 ((hiN r : Nat) : Int), .int .u64 ((loN r : Nat) : Int)] 170
  lq : S + 1 + 1 + 1 < bq
  lr : S + 1 + 1 + 1 < br
  qr : bq ≠ br
  hb : Below S w wr


set_option maxRecDepth 20000 in
set_option maxHeartbeats 4000000 in
theorem over_any (n1 n2 : Bool) (m d : Nat) (hm : m < 340282366920938463463374607431768211456) (hd0 : 0 < d) (hd : d < 170141183460469231731687303715884105728) (w : World) :
    Calls Tryz.prog 138 #[.agg #[.bool n1, .int .u64 ((hiN m : Nat) : Int), .int .u64 ((loN m : Nat) : Int)], .agg #[.bool n2, .int .u64 ((hiN d : Nat) : Int), .int .u64 ((loN d : Nat) : Int)]] w fun e w' =>
      e = .returned (.tuple #[.agg #[.bool (n1 != n2), .int .u64 ((hiN (m / d) : Nat) : Int), .int .u64 ((loN (m / d) : Nat) : Int)], .agg #[.bool n1, .int .u64 ((hiN (m % d) : Nat) : Int), .int .u64 ((loN (m % d) : Nat) : Int)]]) ∧ Below w.heap.size w w' := by
  go_enter Tryz.func138, Tryz.ntmps138
  go_upto_region 1 with fail
  go_cut [6, 7] from 9 to 17 (fun v6 v7 wx => ∃ bq br : Nat, v6 = .pointer (some ⟨bq, 0, none⟩) ∧ v7 = .pointer (some ⟨br, 0, none⟩) ∧ Ov w.heap.size bq br n1 n2 (n1 != n2) m d 0 0 w wx)
  case first =>
    go_region
    all_goals (go_wp2_with fail; go_meet)
    · exact ⟨_, _, rfl, rfl, Blk.drew (Blk.alloc (Blk.alloc (Blk.alloc (Blk.alloc (Blk.alloc (Blk.here rfl (by simp)) _) _) _) _) _), Blk.drew (Blk.alloc (Blk.alloc (Blk.alloc (Blk.alloc (Blk.here rfl (by simp)) _) _) _) _), Blk.drew (Blk.alloc (Blk.alloc (Blk.alloc (Blk.here rfl (by simp)) _) _) _), Blk.drew (Blk.alloc (Blk.alloc (Blk.here rfl (by simp)) _) _), Blk.drew (Blk.alloc (Blk.here rfl (by simp)) _), Blk.drew (Blk.here rfl (by simp)), by omega, by omega, by omega, by go_grown⟩
    · exact ⟨_, _, rfl, rfl, Blk.drew (Blk.alloc (Blk.alloc (Blk.alloc (Blk.alloc (Blk.alloc (Blk.here rfl (by simp)) _) _) _) _) _), Blk.drew (Blk.alloc (Blk.alloc (Blk.alloc (Blk.alloc (Blk.here rfl (by simp)) _) _) _) _), Blk.drew (Blk.alloc (Blk.alloc (Blk.alloc (Blk.here rfl (by simp)) _) _) _), Blk.drew (Blk.alloc (Blk.alloc (Blk.here rfl (by simp)) _) _), Blk.drew (Blk.here rfl (by simp)), Blk.drew (Blk.alloc (Blk.here rfl (by simp)) _), by omega, by omega, by omega, by go_grown⟩
  case rest =>
    obtain ⟨bq, br, rfl, rfl, hO⟩ := hcut
    obtain ⟨nq, hnq⟩ : ∃ b, b = (n1 != n2) := ⟨_, rfl⟩
    rw [← hnq] at hO
    have HNQ := Lib.hid hnq
    clear hnq
    have HM := Lib.hid hm
    have HD := Lib.hid hd
    clear hm hd
    go_wp2_with fail
    go_loopg [8] 129 (fun g ii wr => ∃ j : Nat, j ≤ 128 ∧ g + j = 129 ∧ ii = .int .i64 (127 - (j : Int)) ∧ Ov w.heap.size bq br n1 n2 nq m d (m / 2 ^ (128 - j) / d) (m / 2 ^ (128 - j) % d) w wr)
    case atStart =>
      have e128 : (2 : Nat) ^ (128 - 0) = 340282366920938463463374607431768211456 := by decide
      have e : m / 2 ^ (128 - 0) = 0 := by rw [e128]; exact Nat.div_eq_of_lt HM.out
      refine ⟨0, by omega, by omega, rfl, ?_⟩
      rw [e, Nat.zero_div, Nat.zero_mod]
      exact hO
    case round =>
      obtain ⟨j, hj, hgj, rfl, hR⟩ := hrel
      clear hO
      by_cases hlt : j < 128
      · obtain ⟨i, hi, hij⟩ : ∃ i : Nat, (127 - (j : Int)) = (i : Int) ∧ i + j = 127 := ⟨127 - j, by omega, by omega⟩
        rw [hi]
        have hM : m / 2 ^ i = 2 * (m / 2 ^ (128 - j)) + m / 2 ^ i % 2 := by
          have := bit_step m i
          rw [show i + 1 = 128 - j by omega] at this
          exact this
        obtain ⟨b, hb⟩ : ∃ b, b = m / 2 ^ i % 2 := ⟨_, rfl⟩
        have hb2 : b < 2 := by rw [hb]; exact Nat.mod_lt _ (by omega)
        rw [← hb] at hM
        have hst := div_step hd0 hb2 hM
        have hXb : m / 2 ^ (128 - j) < 170141183460469231731687303715884105728 := by
          have h1 := HM.out
          have h2 : m / 2 ^ (128 - j) = m / 2 ^ i / 2 := by omega
          have h3 : m / 2 ^ i ≤ m := Nat.div_le_self _ _
          omega
        have hrd := Nat.mod_lt (m / 2 ^ (128 - j)) hd0
        have hqX : m / 2 ^ (128 - j) / d ≤ m / 2 ^ (128 - j) := Nat.div_le_self _ _
        have ej : 128 - (j + 1) = i := by omega
        have hdb := HD.out
        generalize m / 2 ^ (128 - j) % d = r at *
        generalize m / 2 ^ (128 - j) / d = q at *
        obtain ⟨T, hT⟩ : ∃ T, T = 2 * r + b := ⟨_, rfl⟩
        have bT : T < 340282366920938463463374607431768211456 := by omega
        rw [← hT] at hst
        have hT' := Lib.hid hT
        have U1 := Lib.hid (or_hi r T b hb2 hT bT)
        have U2 := Lib.hid (or_lo2 r T b hb2 hT bT)
        have U3 := Lib.hid (lo_two r)
        have V1 := Lib.hid (or_hi q (2 * q) 0 (by omega) (by omega) (by omega))
        have V2 := Lib.hid (lo_two q)
        have V3 := Lib.hid (or_one q)
        have HST := Lib.hid hst
        have BT := Lib.hid bT
        have HHB := Lib.hid hb
        have HEJ := Lib.hid ej
        have HI := Lib.hid hi
        have HIJ := Lib.hid hij
        have g5 : IntKind.i64.wrap ((i : Int) - 1) = (i : Int) - 1 := by rw [IntKind.wrap_i64]; omega
        clear hst hM hXb hqX hT hb ej hrd hdb bT hb2 hi hij
        obtain ⟨C0, C1, C2, C3, C4, C5, lq, lr, qr, hw⟩ := hR
        obtain ⟨c00, c01, c02, f00, f01, f02⟩ := C0.three
        obtain ⟨c50, c51, c52, f50, f51, f52⟩ := C5.three
        have r0 : w.heap.size ≠ br := by omega
        have r1 : w.heap.size + 1 ≠ br := by omega
        have r2 : w.heap.size + 1 + 1 ≠ br := by omega
        have r3 : w.heap.size + 1 + 1 + 1 ≠ br := by omega
        have q0 : w.heap.size ≠ bq := by omega
        have q1 : w.heap.size + 1 ≠ bq := by omega
        have q2 : w.heap.size + 1 + 1 ≠ bq := by omega
        have q3 : w.heap.size + 1 + 1 + 1 ≠ bq := by omega
        have rq : br ≠ bq := fun e => qr e.symm
        go_upto_if 35 with fail
        simp only [U1.out, U3.out]
        go_cut [] from 18 to 77 (fun wx => Ov w.heap.size bq br n1 n2 nq m d q T w wx)
        case first =>
          by_cases h64 : 64 ≤ i
          · have w1 := bit_hi m i b HM.out h64 (by have := HIJ.out; omega) HHB.out
            have g1 : decide ((64 : Int) ≤ (i : Int)) = true := by simp; omega
            have p64 : (64 : Int) ≤ (i : Int) := by omega
            have p128 : (i : Int) < 128 := by have := HIJ.out; omega
            have W1 := Lib.hid w1
            clear w1 h64
            go_wp2_with fail
            go_region
            simp only [W1.out, U2.out]
            go_wp2_with fail
            go_meet
            exact ⟨(((C0.other r0 _).other r0 _).other r0 _).drew, (((C1.other r1 _).other r1 _).other r1 _).drew, (((C2.other r2 _).other r2 _).other r2 _).drew, (((C3.other r3 _).other r3 _).other r3 _).drew, (((C4.other qr _).other qr _).other qr _).drew, (((C5.set 1 _).set 2 _).set 2 _).drew, lq, lr, qr, (((hw.setCell (by simp; omega) _).setCell (by simp; omega) _).setCell (by simp; omega) _).drew⟩
          · have w1 := bit_lo m i b (by omega) HHB.out
            have g1 : decide ((64 : Int) ≤ (i : Int)) = false := by simp; omega
            have W1 := Lib.hid w1
            have g4 : Op.shift .shr .u64 ((loN m : Nat) : Int) .i64 (i : Int) = pure (.int .u64 (((loN m : Nat) : Int) / 2 ^ i)) := by
              have := shift_shr .u64 .i64 ((loN m : Nat) : Int) (i : Int) (by omega) (by show (i : Int) ≤ 64; omega)
              simp
            have p64 : ¬ ((64 : Int) ≤ (i : Int)) := by omega
            clear w1
            go_wp2_with fail
            go_region
            simp only [W1.out, U2.out]
            go_wp2_with fail
            go_meet
            exact ⟨(((C0.other r0 _).other r0 _).other r0 _).drew, (((C1.other r1 _).other r1 _).other r1 _).drew, (((C2.other r2 _).other r2 _).other r2 _).drew, (((C3.other r3 _).other r3 _).other r3 _).drew, (((C4.other qr _).other qr _).other qr _).drew, (((C5.set 1 _).set 2 _).set 2 _).drew, lq, lr, qr, (((hw.setCell (by simp; omega) _).setCell (by simp; omega) _).setCell (by simp; omega) _).drew⟩
        case rest =>
          clear c00 c01 c02 f00 f01 f02 c50 c51 c52 f50 f51 f52 C0 C1 C2 C3 C4 C5 hw
          obtain ⟨D0, D1, D2, D3, D4, D5, -, -, -, hw⟩ := hcut
          obtain ⟨c10, c11, c12, f10, f11, f12⟩ := D1.three
          obtain ⟨c40, c41, c42, f40, f41, f42⟩ := D4.three
          obtain ⟨c50, c51, c52, f50, f51, f52⟩ := D5.three
          have l1 : w.heap.size + 1 < wc.heap.size := D1.lt
          have l4 : bq < wc.heap.size := D4.lt
          have l5 : br < wc.heap.size := D5.lt
          generalize hS1 : w.heap.size + 1 = S1 at *
          by_cases hbel : T < d
          · have HBEL := Lib.hid hbel
            clear hbel
            go_wp2_with (go_at_call 180; refine (below_any n1 n2 T d _).mono ?_; rintro e w3 ⟨rfl, rfl⟩; rw [decide_eq_true HBEL.out]; simp only [wb])
            simp only [V1.out, V2.out, V3.out]
            go_roundg (gk - 1)
            case measure => omega
            case rel =>
              subst hS1
              refine ⟨j + 1, by omega, by omega, by have h9 := HI.out; exact congrArg (Value.int .i64) (by omega), ?_⟩
              rw [HEJ.out, (HST.out.1 HBEL.out).1, (HST.out.1 HBEL.out).2]
              exact ⟨(((D0.other q0 _).other q0 _).alloc _).alloc _, (((D1.other q1 _).other q1 _).alloc _).alloc _, (((D2.other q2 _).other q2 _).alloc _).alloc _, (((D3.other q3 _).other q3 _).alloc _).alloc _, (((D4.set 1 _).set 2 _).alloc _).alloc _, (((D5.other rq _).other rq _).alloc _).alloc _, lq, lr, qr, (((hw.setCell (by simp; omega) _).setCell (by simp; omega) _).alloc (by simp; omega) _).alloc (by simp; omega) _⟩
          · have HBEL := Lib.hid hbel
            clear hbel
            go_wp2_with (first
              | (go_at_call 180; simp only [V1.out, V2.out]; refine (below_any n1 n2 T d _).mono ?_; rintro e w3 ⟨rfl, hw3⟩; rw [decide_eq_false HBEL.out]
                 have E0 : Blk w3 w.heap.size #[.bool n1, .int .u64 ((hiN m : Nat) : Int), .int .u64 ((loN m : Nat) : Int)] 170 := by rw [hw3]; exact (((D0.other q0 _).other q0 _).alloc _).alloc _
                 have E1 : Blk w3 S1 #[.bool n2, .int .u64 ((hiN d : Nat) : Int), .int .u64 ((loN d : Nat) : Int)] 170 := by rw [hw3]; exact (((D1.other q1 _).other q1 _).alloc _).alloc _
                 have E2 : Blk w3 (S1 + 1) #[.bool false, .int .u64 0, .int .u64 0] 170 := by rw [hw3]; exact (((D2.other q2 _).other q2 _).alloc _).alloc _
                 have E3 : Blk w3 (S1 + 1 + 1) #[.bool false, .int .u64 0, .int .u64 0] 170 := by rw [hw3]; exact (((D3.other q3 _).other q3 _).alloc _).alloc _
                 have E4 : Blk w3 bq #[.bool nq, .int .u64 ((hiN (2 * q) : Nat) : Int), .int .u64 ((loN (2 * q) : Nat) : Int)] 170 := by rw [hw3]; exact (((D4.set 1 _).set 2 _).alloc _).alloc _
                 have E5 : Blk w3 br #[.bool n1, .int .u64 ((hiN T : Nat) : Int), .int .u64 ((loN T : Nat) : Int)] 170 := by rw [hw3]; exact (((D5.other rq _).other rq _).alloc _).alloc _
                 have hw' : Below w.heap.size w w3 := by rw [hw3]; exact (((hw.setCell (by simp; omega) _).setCell (by simp; omega) _).alloc (by simp; omega) _).alloc (by simp; omega) _
                 clear hw3 D0 D1 D2 D3 D4 D5 c10 c11 c12 f10 f11 f12 c40 c41 c42 f40 f41 f42 c50 c51 c52 f50 f51 f52 hw l1 l4 l5
                 obtain ⟨c10, c11, c12, f10, f11, f12⟩ := E1.three
                 obtain ⟨c40, c41, c42, f40, f41, f42⟩ := E4.three
                 obtain ⟨c50, c51, c52, f50, f51, f52⟩ := E5.three)
              | (go_at_call 181; refine (minus_any n1 n2 T d (Nat.le_of_not_lt HBEL.out) BT.out _).mono ?_; rintro e w4 ⟨rfl, hw4⟩
                 have F0 : Blk w4 w.heap.size #[.bool n1, .int .u64 ((hiN m : Nat) : Int), .int .u64 ((loN m : Nat) : Int)] 170 := by rw [hw4]; exact ((E0.alloc _).alloc _).alloc _
                 have F1 : Blk w4 S1 #[.bool n2, .int .u64 ((hiN d : Nat) : Int), .int .u64 ((loN d : Nat) : Int)] 170 := by rw [hw4]; exact ((E1.alloc _).alloc _).alloc _
                 have F2 : Blk w4 (S1 + 1) #[.bool false, .int .u64 0, .int .u64 0] 170 := by rw [hw4]; exact ((E2.alloc _).alloc _).alloc _
                 have F3 : Blk w4 (S1 + 1 + 1) #[.bool false, .int .u64 0, .int .u64 0] 170 := by rw [hw4]; exact ((E3.alloc _).alloc _).alloc _
                 have F4 : Blk w4 bq #[.bool nq, .int .u64 ((hiN (2 * q) : Nat) : Int), .int .u64 ((loN (2 * q) : Nat) : Int)] 170 := by rw [hw4]; exact ((E4.alloc _).alloc _).alloc _
                 have F5 : Blk w4 br #[.bool n1, .int .u64 ((hiN T : Nat) : Int), .int .u64 ((loN T : Nat) : Int)] 170 := by rw [hw4]; exact ((E5.alloc _).alloc _).alloc _
                 have hw'' : Below w.heap.size w w4 := by rw [hw4]; exact ((hw'.alloc hw'.size _).alloc (Nat.le_trans hw'.size (by simp)) _).alloc (Nat.le_trans hw'.size (by simp; omega)) _
                 clear hw4 E0 E1 E2 E3 E4 E5 c10 c11 c12 f10 f11 f12 c40 c41 c42 f40 f41 f42 c50 c51 c52 f50 f51 f52 hw'
                 obtain ⟨c40, c41, c42, f40, f41, f42⟩ := F4.three
                 obtain ⟨c50, c51, c52, f50, f51, f52⟩ := F5.three))
            simp only [V3.out]
            go_roundg (gk - 1)
            case measure => omega
            case rel =>
              subst hS1
              refine ⟨j + 1, by omega, by omega, by have h9 := HI.out; exact congrArg (Value.int .i64) (by omega), ?_⟩
              rw [HEJ.out, (HST.out.2 HBEL.out).1, (HST.out.2 HBEL.out).2]
              exact ⟨(((F0.other r0 _).other r0 _).other r0 _).other q0 _, (((F1.other r1 _).other r1 _).other r1 _).other q1 _, (((F2.other r2 _).other r2 _).other r2 _).other q2 _, (((F3.other r3 _).other r3 _).other r3 _).other q3 _, by rw [hi_one]; exact ((((F4.other qr _).other qr _).other qr _).set 2 _), ((((F5.set 0 _).set 1 _).set 2 _).other rq _), lq, lr, qr, ((((hw''.setCell (by simp; omega) _).setCell (by simp; omega) _).setCell (by simp; omega) _).setCell (by simp; omega) _)⟩
      · have hj : j = 128 := by omega
        subst hj
        have e : m / 2 ^ (128 - 128) = m := by simp
        rw [e] at hR
        obtain ⟨C0, C1, C2, C3, C4, C5, lq, lr, qr, hw⟩ := hR
        obtain ⟨c20, c21, c22, f20, f21, f22⟩ := C2.three
        obtain ⟨c30, c31, c32, f30, f31, f32⟩ := C3.three
        obtain ⟨c40, c41, c42, f40, f41, f42⟩ := C4.three
        obtain ⟨c50, c51, c52, f50, f51, f52⟩ := C5.three
        have s1 : w.heap.size + 1 + 1 ≠ w.heap.size + 1 + 1 + 1 := by omega
        go_wp2_with fail
        go_region
        go_wp2_with fail
        refine bodyPost_ret (v := .tuple #[.agg #[.bool nq, .int .u64 ((hiN (m / d) : Nat) : Int), .int .u64 ((loN (m / d) : Nat) : Int)], .agg #[.bool n1, .int .u64 ((hiN (m % d) : Nat) : Int), .int .u64 ((loN (m % d) : Nat) : Int)]]) (by simp [results, Tryz.results138, go_sem, c20, c21, c22, c30, c31, c32, s1]) rfl ⟨by rw [HNQ.out], ((((((hw.setCell (by simp; omega) _).setCell (by simp; omega) _).setCell (by simp; omega) _).setCell (by simp; omega) _).setCell (by simp; omega) _).setCell (by simp; omega) _).drew⟩
end Go.Proofs.YtfagfkfcokmclaaGreatDoor
end
