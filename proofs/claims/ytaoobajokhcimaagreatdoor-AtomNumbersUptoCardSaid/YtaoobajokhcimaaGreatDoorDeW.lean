/- Numbers of 128 bits, plain: in two halves. -/
import Derived.Test.YtaoobajokhcimaaGreatDoorDeP
set_option linter.unusedSimpArgs false
set_option linter.unusedVariables false
namespace Go.Proofs.YtaoobajokhcimaaGreatDoor

/-- The upper half, the lower. -/
def hiN (m : Nat) : Nat := m / 18446744073709551616
def loN (m : Nat) : Nat := m % 18446744073709551616
theorem hilo (m : Nat) : hiN m * 18446744073709551616 + loN m = m := by unfold hiN loN; omega
theorem lo_lt (m : Nat) : loN m < 18446744073709551616 := by unfold loN; omega
theorem hi_lt {m : Nat} (h : m < 340282366920938463463374607431768211456) : hiN m < 18446744073709551616 := by unfold hiN; omega
theorem below_iff (m x : Nat) : (decide (hiN m < hiN x) || (hiN m == hiN x && decide (loN m < loN x))) = decide (m < x) := by
  have h1 := hilo m
  have h2 := hilo x
  have h3 := lo_lt m
  have h4 := lo_lt x
  generalize hiN m = a at *
  generalize hiN x = b at *
  generalize loN m = c at *
  generalize loN x = d at *
  rcases Nat.lt_trichotomy a b with h | h | h
  · rw [decide_eq_true h, decide_eq_true (show m < x by omega)]
    rfl
  · subst h
    rw [decide_eq_false (Nat.lt_irrefl _), beq_self_eq_true]
    simp only [Bool.false_or, Bool.true_and]
    congr 1
    apply propext
    omega
  · rw [decide_eq_false (by omega), decide_eq_false (show ¬ m < x by omega)]
    have : (a == b) = false := by simp; omega
    rw [this]
    rfl
theorem nought_iff (m : Nat) : (hiN m == 0 && loN m == 0) = (m == 0) := by
  have h1 := hilo m
  cases e : (m == 0) <;> simp at e
  · have : ¬ (hiN m = 0 ∧ loN m = 0) := fun h => by omega
    cases e1 : (hiN m == 0) <;> cases e2 : (loN m == 0) <;> simp at e1 e2 ⊢
    omega
  · subst e
    rfl
theorem minus_parts {m x : Nat} (h : x ≤ m) (hm : m < 340282366920938463463374607431768211456) :
    (loN m + 18446744073709551616 - loN x - 0) % 18446744073709551616 = loN (m - x) ∧ (hiN m + 18446744073709551616 - hiN x - (if loN m < loN x + 0 then 1 else 0)) % 18446744073709551616 = hiN (m - x) := by
  unfold hiN loN
  split <;> omega
theorem plus_parts {m x : Nat} (h : m + x < 340282366920938463463374607431768211456) :
    (loN m + loN x + 0) % 18446744073709551616 = loN (m + x) ∧ (hiN m + hiN x + (loN m + loN x + 0) / 18446744073709551616) % 18446744073709551616 = hiN (m + x) := by
  unfold hiN loN
  omega
theorem small_parts {m : Nat} (h : m < 340282366920938463463374607431768211456) :
    hiN m / 10 = hiN (m / 10) ∧ (hiN m % 10 * 18446744073709551616 + loN m) / 10 = loN (m / 10) ∧ (hiN m % 10 * 18446744073709551616 + loN m) % 10 = m % 10 := by
  unfold hiN loN
  omega
theorem twice_parts {r b : Nat} (hb : b < 2) (h : 2 * r + b < 340282366920938463463374607431768211456) :
    (hiN r * 2) % 18446744073709551616 + loN r / 9223372036854775808 = hiN (2 * r + b) ∧ loN r * 2 % 18446744073709551616 + b = loN (2 * r + b) ∧ (hiN r * 2) % 18446744073709551616 % 2 = 0 ∧ loN r / 9223372036854775808 < 2 := by
  unfold hiN loN
  omega
/-- One step of the long division. -/
theorem div_step {M d X b : Nat} (hd : 0 < d) (hb : b < 2) (hX : M = 2 * X + b) :
    (2 * (X % d) + b < d → M % d = 2 * (X % d) + b ∧ M / d = 2 * (X / d)) ∧ (¬ 2 * (X % d) + b < d → M % d = 2 * (X % d) + b - d ∧ M / d = 2 * (X / d) + 1) := by
  have h1 := Nat.div_add_mod X d
  have h2 := Nat.mod_lt X hd
  subst hX
  generalize X / d = q at *
  generalize X % d = r at *
  subst h1
  constructor
  · intro h
    have e : 2 * (d * q + r) + b = (2 * r + b) + d * (2 * q) := by rw [Nat.mul_left_comm d 2 q]; omega
    rw [e, Nat.add_mul_mod_self_left, Nat.mod_eq_of_lt h, Nat.add_mul_div_left _ _ hd, Nat.div_eq_of_lt h]
    omega
  · intro h
    have e : 2 * (d * q + r) + b = (2 * r + b - d) + d * (2 * q + 1) := by rw [Nat.mul_add d, Nat.mul_left_comm d 2 q]; omega
    have h3 : 2 * r + b - d < d := by omega
    rw [e, Nat.add_mul_mod_self_left, Nat.mod_eq_of_lt h3, Nat.add_mul_div_left _ _ hd, Nat.div_eq_of_lt h3]
    omega
/-- The sum of two signed numbers: sign, bits. -/
def plusF (n1 : Bool) (m1 : Nat) (n2 : Bool) (m2 : Nat) : Bool × Nat := if n1 == n2 then (n1, m1 + m2) else if decide (m1 < m2) then (n2, m2 - m1) else (n1, m1 - m2)
theorem plusF_sgn (n1 : Bool) (m1 : Nat) (n2 : Bool) (m2 : Nat) : sgn (plusF n1 m1 n2 m2).1 (plusF n1 m1 n2 m2).2 = sgn n1 m1 + sgn n2 m2 ∧ (plusF n1 m1 n2 m2).2 ≤ m1 + m2 := by
  unfold plusF
  cases n1 <;> cases n2 <;> simp [sgn]
  · split <;> simp <;> omega
  · split <;> simp <;> omega
  · omega
end Go.Proofs.YtaoobajokhcimaaGreatDoor
