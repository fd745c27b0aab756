/- Numbers of 128 bits: the bits of one step of the long division. -/
import Derived.Test.YtaoobajokhcimaaGreatDoorMgA
import Derived.Laws.BitsAllLaws
set_option linter.unusedSimpArgs false
set_option linter.unusedVariables false
namespace Go.Proofs.YtaoobajokhcimaaGreatDoor

theorem or_hi (r T b : Nat) (hb : b < 2) (hT : T = 2 * r + b) (h : T < 340282366920938463463374607431768211456) : bits .or .u64 (IntKind.u64.wrap (((hiN r : Nat) : Int) * 2)) (((loN r : Nat) : Int) / 9223372036854775808) = ((hiN T : Nat) : Int) := by
  subst hT
  obtain ⟨h1, h2, h3, h4⟩ := twice_parts hb h
  have e1 : IntKind.u64.wrap (((hiN r : Nat) : Int) * 2) = ((hiN r * 2 % 18446744073709551616 : Nat) : Int) := by rw [IntKind.wrap_u64]; omega
  have e2 : ((loN r : Nat) : Int) / 9223372036854775808 = ((loN r / 9223372036854775808 : Nat) : Int) := by omega
  rw [e1, e2, u64_or_nat _ _ (by omega) (by omega), nat_join 1 _ _ (by simp) (by simpa using h4), h1]
theorem or_lo (r T b : Nat) (hb : b < 2) (hT : T = 2 * r + b) (h : T < 340282366920938463463374607431768211456) : bits .or .u64 (IntKind.u64.wrap (((loN r : Nat) : Int) * 2)) ((b : Nat) : Int) = ((loN T : Nat) : Int) := by
  subst hT
  obtain ⟨h1, h2, h3, h4⟩ := twice_parts hb h
  have e1 : IntKind.u64.wrap (((loN r : Nat) : Int) * 2) = ((loN r * 2 % 18446744073709551616 : Nat) : Int) := by rw [IntKind.wrap_u64]; omega
  rw [e1, u64_or_nat _ _ (by omega) (by omega), nat_join 1 _ _ (by simp) (by simpa using hb), h2]
theorem lo_two (q : Nat) : IntKind.u64.wrap (((loN q : Nat) : Int) * 2) = ((loN (2 * q) : Nat) : Int) := by
  rw [IntKind.wrap_u64]
  unfold loN
  omega
theorem or_lo2 (r T b : Nat) (hb : b < 2) (hT : T = 2 * r + b) (h : T < 340282366920938463463374607431768211456) : bits .or .u64 ((loN (2 * r) : Nat) : Int) ((b : Nat) : Int) = ((loN T : Nat) : Int) := by
  rw [← lo_two]
  exact or_lo r T b hb hT h
theorem hi_one (q : Nat) : hiN (2 * q + 1) = hiN (2 * q) := by unfold hiN; omega
theorem or_one (q : Nat) : bits .or .u64 ((loN (2 * q) : Nat) : Int) 1 = ((loN (2 * q + 1) : Nat) : Int) := by
  have hl := lo_lt (2 * q)
  have e := u64_or_nat (loN (2 * q)) 1 hl (by omega)
  rw [nat_join 1 _ _ (by unfold loN; simp) (by simp)] at e
  refine e.trans ?_
  unfold loN
  omega
theorem bit_hi (m i b : Nat) (hm : m < 340282366920938463463374607431768211456) (h1 : 64 ≤ i) (h2 : i < 128) (hb : b = m / 2 ^ i % 2) : bits .and .u64 (((hiN m : Nat) : Int) / 2 ^ (i - 64)) 1 = ((b : Nat) : Int) := by
  have e1 : (((hiN m : Nat) : Int) / 2 ^ (i - 64)) = ((hiN m / 2 ^ (i - 64) : Nat) : Int) := by simp
  have hl := hi_lt hm
  have hle : hiN m / 2 ^ (i - 64) ≤ hiN m := Nat.div_le_self _ _
  have e := u64_and_nat (hiN m / 2 ^ (i - 64)) 1 (by omega) (by omega)
  rw [e1]
  refine e.trans ?_
  rw [nat_mask1, hb]
  unfold hiN
  rw [Nat.div_div_eq_div_mul]
  have : 18446744073709551616 * 2 ^ (i - 64) = 2 ^ i := by
    have h64 : (18446744073709551616 : Nat) = 2 ^ 64 := by decide
    rw [h64, ← Nat.pow_add]
    congr 1
    omega
  rw [this]
theorem bit_lo (m i b : Nat) (h2 : i < 64) (hb : b = m / 2 ^ i % 2) : bits .and .u64 (((loN m : Nat) : Int) / 2 ^ i) 1 = ((b : Nat) : Int) := by
  have e1 : (((loN m : Nat) : Int) / 2 ^ i) = ((loN m / 2 ^ i : Nat) : Int) := by simp
  have hl := lo_lt m
  have hle : loN m / 2 ^ i ≤ loN m := Nat.div_le_self _ _
  have e := u64_and_nat (loN m / 2 ^ i) 1 (by omega) (by omega)
  rw [e1]
  refine e.trans ?_
  rw [nat_mask1, hb]
  congr 1
  unfold loN
  have h64 : (18446744073709551616 : Nat) = 2 ^ i * 2 ^ (64 - i) := by
    rw [← Nat.pow_add, show i + (64 - i) = 64 by omega]
  rw [h64, Nat.mod_mul_right_div_self]
  have : 2 ^ (64 - i) = 2 * 2 ^ (63 - i) := by rw [← Nat.pow_succ']; congr 1; omega
  rw [this, Nat.mod_mul_right_mod]
theorem bit_step (m i : Nat) : m / 2 ^ i = 2 * (m / 2 ^ (i + 1)) + m / 2 ^ i % 2 := by
  rw [Nat.pow_succ, ← Nat.div_div_eq_div_mul]
  omega
end Go.Proofs.YtaoobajokhcimaaGreatDoor
