/- Numbers of 128 bits: the division by ten, as the library does it. -/
import Derived.Test.YtfagfkfcokmclaaGreatDoorZWaB
import Derived.Test.YtfagfkfcokmclaaGreatDoorZShf
import Derived.Laws.BitsAllLaws
import Derived.Lib.Hide
import Derived.Deep.QuietTactic
import Derived.BigQuiet
import Derived.Lib.QuietBelow
set_option linter.unusedSimpArgs false
set_option linter.unusedVariables false
namespace Go.Proofs.YtfagfkfcokmclaaGreatDoor
open Go.RowKit

theorem below_drewN {B : Nat} {a w : World} (h : Below B a w) (q : Nat) : Below B a (w.drewN q) := ⟨h.os, h.tape, h.output, h.size, h.block⟩

theorem lz_any (w : World) : Calls Tryz.prog 240 #[.int .u64 10] w fun e w' => e = .returned (.int .i64 60) ∧ w' = w := Tryz.bits_LeadingZeros64 10 w (by omega) (by omega)

theorem p60 : (2 : Nat) ^ 60 = 1152921504606846976 := by decide
theorem join60 (hi lo U : Nat) (h : hi < 10) (hl : lo < 18446744073709551616) (hU : U = hi * 1152921504606846976 + lo / 16) : bits .or .u64 ((hi : Int) * 1152921504606846976) ((lo : Int) / 16) = (U : Int) := by
  have e1 : ((hi : Int) * 1152921504606846976) = ((hi * 1152921504606846976 : Nat) : Int) := by omega
  have e2 : ((lo : Int) / 16) = ((lo / 16 : Nat) : Int) := by omega
  have e3 : (hi * 1152921504606846976) % 2 ^ 60 = 0 := by rw [p60]; omega
  have e4 : lo / 16 < 2 ^ 60 := by rw [p60]; omega
  rw [e1, e2, u64_or_nat _ _ (by omega) (by omega), nat_join 60 _ _ e3 e4, hU]
theorem quoN (U Q : Nat) (hQ : Q = U / 2684354560) (b : U < 18446744073709551616) : IntKind.u64.wrap ((U : Int).tdiv 2684354560) = (Q : Int) := by
  rw [IntKind.wrap_u64, Int.tdiv_eq_ediv_of_nonneg (by omega)]; omega
theorem remN (U Q R : Nat) (hQ : Q = U / 2684354560) (hR : R = U % 2684354560) (b : U < 18446744073709551616) : IntKind.u64.wrap ((U : Int) - IntKind.u64.wrap ((Q : Int) * 2684354560)) = (R : Int) := by
  rw [IntKind.wrap_u64, IntKind.wrap_u64]; omega
theorem and0 : bits .and .u64 11529215046068469760 4294967295 = 0 := by
  have h := u64_and_nat 11529215046068469760 4294967295 (by omega) (by omega)
  exact h.trans (by decide)
theorem wrapL (lo L : Nat) (hL : L = lo % 16 * 1152921504606846976) : IntKind.u64.wrap ((lo : Int) * 1152921504606846976) = (L : Int) := by rw [IntKind.wrap_u64]; omega
theorem andL (lo L : Nat) (hL : L = lo % 16 * 1152921504606846976) : bits .and .u64 (L : Int) 4294967295 = 0 := by
  have h := u64_and_nat L 4294967295 (by omega) (by omega)
  have e : L &&& 4294967295 = L % 4294967296 := Nat.and_two_pow_sub_one_eq_mod L 32
  rw [e] at h
  refine h.trans ?_
  omega
theorem div_parts (hi lo L M1 U Q1 R1 V Q2 R2 : Nat) (h : hi < 10) (hl : lo < 18446744073709551616) (hL : L = lo % 16 * 1152921504606846976) (hM : M1 = lo % 16 * 268435456) (hU : U = hi * 1152921504606846976 + lo / 16) (hQ1 : Q1 = U / 2684354560) (hR1 : R1 = U % 2684354560) (hV : V = R1 * 4294967296 + M1) (hQ2 : Q2 = V / 2684354560) (hR2 : R2 = V % 2684354560) :
    V < 11529215046068469760 ∧ Q2 < 4294967296 ∧ R2 < 2684354560 ∧ 
    ((U : Int) * 4294967296 + (M1 : Int) - (Q1 : Int) * 11529215046068469760) = (V : Int) ∧ Q1 * 4294967296 + Q2 = (hi * 18446744073709551616 + lo) / 10 ∧ R2 / 268435456 = (hi * 18446744073709551616 + lo) % 10 := by
  refine ⟨by omega, by omega, by omega, by omega, by omega, by omega⟩
theorem midN (U V Q1 M1 : Nat) (bV : V < 18446744073709551616) (d2 : ((U : Int) * 4294967296 + (M1 : Int) - (Q1 : Int) * 11529215046068469760) = (V : Int)) :
    IntKind.u64.wrap (IntKind.u64.wrap (IntKind.u64.wrap ((U : Int) * 4294967296) + (M1 : Int)) - IntKind.u64.wrap ((Q1 : Int) * 11529215046068469760)) = (V : Int) := by
  simp only [IntKind.wrap_u64]
  rw [Int.emod_add_emod, ← Int.sub_emod, d2]
  clear d2
  omega
theorem lastN (V Q2 R2 : Nat) (hQ2 : Q2 = V / 2684354560) (hR2 : R2 = V % 2684354560) : IntKind.u64.wrap (IntKind.u64.wrap (IntKind.u64.wrap ((V : Int) * 4294967296)) - IntKind.u64.wrap ((Q2 : Int) * 11529215046068469760)) / 1152921504606846976 = ((R2 / 268435456 : Nat) : Int) := by
  have e : (V : Int) * 4294967296 - (Q2 : Int) * 11529215046068469760 = (R2 : Int) * 4294967296 := by omega
  simp only [IntKind.wrap_u64, Int.emod_emod]
  rw [← Int.sub_emod, e]
  omega
theorem firstN (Q1 Q2 : Nat) (h1 : Q1 < 4294967296) (h2 : Q2 < 4294967296) : IntKind.u64.wrap (IntKind.u64.wrap ((Q1 : Int) * 4294967296) + (Q2 : Int)) = ((Q1 * 4294967296 + Q2 : Nat) : Int) := by
  simp only [IntKind.wrap_u64]
  omega
theorem halfL (lo L M : Nat) (hL : L = lo % 16 * 1152921504606846976) (hM : M = lo % 16 * 268435456) : (L : Int) / 4294967296 = (M : Int) := by omega
theorem leF (Q : Nat) (h : Q < 4294967296) : decide ((4294967296 : Int) ≤ (Q : Int)) = false := by simp; omega
set_option maxHeartbeats 1000000 in
theorem div64_big (hi lo : Nat) (h0 : 0 < hi) (h : hi < 10) (hl : lo < 18446744073709551616) (w : World) :
    Calls Tryz.prog 216 #[.int .u64 (hi : Int), .int .u64 (lo : Int), .int .u64 10] w fun e w' => e = .returned (.tuple #[.int .u64 (((hi * 18446744073709551616 + lo) / 10 : Nat) : Int), .int .u64 (((hi * 18446744073709551616 + lo) % 10 : Nat) : Int)]) ∧ ∃ k, w' = w.drewN k := by
  have f1 : decide ((10 : Int) ≤ (hi : Int)) = false := by simp; omega
  have f2 : ((hi : Int) == 0) = false := by simp; omega
  obtain ⟨L, hL⟩ : ∃ L : Nat, L = lo % 16 * 1152921504606846976 := ⟨_, rfl⟩
  obtain ⟨M1, hM1⟩ : ∃ M : Nat, M = lo % 16 * 268435456 := ⟨_, rfl⟩
  obtain ⟨U, hU⟩ : ∃ U : Nat, U = hi * 1152921504606846976 + lo / 16 := ⟨_, rfl⟩
  obtain ⟨Q1, hQ1⟩ : ∃ Q : Nat, Q = U / 2684354560 := ⟨_, rfl⟩
  obtain ⟨R1, hR1⟩ : ∃ R : Nat, R = U % 2684354560 := ⟨_, rfl⟩
  obtain ⟨V, hV⟩ : ∃ V : Nat, V = R1 * 4294967296 + M1 := ⟨_, rfl⟩
  obtain ⟨Q2, hQ2⟩ : ∃ Q : Nat, Q = V / 2684354560 := ⟨_, rfl⟩
  obtain ⟨R2, hR2⟩ : ∃ R : Nat, R = V % 2684354560 := ⟨_, rfl⟩
  obtain ⟨bV, bQ2, bR2, d2, d3, d4⟩ := div_parts hi lo L M1 U Q1 R1 V Q2 R2 h hl hL hM1 hU hQ1 hR1 hV hQ2 hR2
  have bU : U < 18446744073709551616 := by clear d2 d3 d4; omega
  have bQ1 : Q1 < 4294967296 := by clear d2 d3 d4; omega
  have bR1 : R1 < 2684354560 := by clear d2 d3 d4; omega
  have bL : L < 18446744073709551616 := by clear d2 d3 d4; omega
  have hj := Lib.hid (join60 hi lo U h hl hU)
  have h1 := Lib.hid (quoN U Q1 hQ1 bU)
  have h2 := Lib.hid (remN U Q1 R1 hQ1 hR1 bU)
  have hm := Lib.hid (midN U V Q1 M1 (Nat.lt_trans bV (by decide)) d2)
  have h3 := Lib.hid (quoN V Q2 hQ2 (Nat.lt_trans bV (by decide)))
  have h4 := Lib.hid (remN V Q2 R2 hQ2 hR2 (Nat.lt_trans bV (by decide)))
  have h6 := Lib.hid (wrapL lo L hL)
  have h7 := Lib.hid (andL lo L hL)
  have h8 := Lib.hid (lastN V Q2 R2 hQ2 hR2)
  have h9 := Lib.hid (firstN Q1 Q2 bQ1 bQ2)
  have f3 := leF Q1 bQ1
  have f4 := leF Q2 bQ2
  have hl1 := Lib.hid (halfL lo L M1 hL hM1)
  have D3 := Lib.hid d3
  have D4 := Lib.hid d4
  clear d2 d3 d4 hL hU hQ1 hR1 hV hQ2 hR2 hM1
  go_enter Tryz.func216, Tryz.ntmps216
  go_wp2_with (go_at_call 240; refine (lz_any _).mono ?_; rintro e w1 ⟨rfl, rfl⟩)
  simp only [and0, hj.out, h1.out, h2.out, h6.out, h7.out, hl1.out]
  go_loopg [15, 16] 0 (fun g q r wr => q = .int .u64 (Q1 : Int) ∧ r = .int .u64 (R1 : Int) ∧ wr = w1)
  case atStart => exact ⟨rfl, rfl, rfl⟩
  case round =>
    obtain ⟨rfl, rfl, rfl⟩ := hrel
    go_wp2_with fail
    simp only [hm.out, h3.out, h4.out]
    go_loopg [18, 16] 0 (fun g q r wr' => q = .int .u64 (Q2 : Int) ∧ r = .int .u64 (R2 : Int) ∧ wr' = wr)
    case atStart => exact ⟨rfl, rfl, rfl⟩
    case round =>
      obtain ⟨rfl, rfl, rfl⟩ := hrel
      go_wp2_with fail
      go_ret2
      refine ⟨?_, 0, rfl⟩
      rw [← D3.out, ← D4.out]
      show Ending.returned (.tuple #[.int .u64 ((Q1 : Int) * 4294967296 + (Q2 : Int)), .int .u64 (IntKind.u64.wrap (IntKind.u64.wrap (IntKind.u64.wrap ((V : Int) * 4294967296)) - IntKind.u64.wrap ((Q2 : Int) * 11529215046068469760)) / 1152921504606846976)]) = _
      rw [h8.out]
      rfl
theorem div64_any (hi lo : Nat) (h : hi < 10) (hl : lo < 18446744073709551616) (w : World) :
    Calls Tryz.prog 216 #[.int .u64 (hi : Int), .int .u64 (lo : Int), .int .u64 10] w fun e w' => e = .returned (.tuple #[.int .u64 (((hi * 18446744073709551616 + lo) / 10 : Nat) : Int), .int .u64 (((hi * 18446744073709551616 + lo) % 10 : Nat) : Int)]) ∧ ∃ k, w' = w.drewN k := by
  rcases Nat.eq_zero_or_pos hi with h0 | h0
  · subst h0
    have hwr : Below w.heap.size w w := Below.refl _ _
    have f1 : ((lo : Int)).tdiv 10 = (((0 * 18446744073709551616 + lo) / 10 : Nat) : Int) := by rw [Int.tdiv_eq_ediv_of_nonneg (by omega)]; omega
    have f2 : ((lo : Int)).tmod 10 = (((0 * 18446744073709551616 + lo) % 10 : Nat) : Int) := by rw [Int.tmod_eq_emod_of_nonneg (by omega)]; omega
    go_enter Tryz.func216, Tryz.ntmps216
    go_wp2_with fail
    go_quiet (fail)
    go_wp2_with fail
    go_ret2
    refine ⟨?_, _, rfl⟩
    show Ending.returned (.tuple #[.int .u64 ((lo : Int) / 10), .int .u64 ((lo : Int) % 10)]) = _
    rw [Nat.zero_mul, Nat.zero_add]
    rfl
  · exact div64_big hi lo h0 h hl w
end Go.Proofs.YtfagfkfcokmclaaGreatDoor
