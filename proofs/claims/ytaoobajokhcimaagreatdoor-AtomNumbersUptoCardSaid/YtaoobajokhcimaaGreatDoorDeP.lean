/- Decimal numbers, plain: whole numbers beside their scale; no program in sight. -/
import Derived.WalkKit
set_option linter.unusedSimpArgs false
set_option linter.unusedVariables false
namespace Go.Proofs.YtaoobajokhcimaaGreatDoor

/-- A number without noughts at the end, of s digits behind the point. -/
def normN : Nat → Nat → Nat × Nat
  | m, 0 => (m, 0)
  | m, s + 1 => if m % 10 == 0 then normN (m / 10) s else (m, s + 1)

theorem normN_spec : ∀ (s m : Nat), (normN m s).2 ≤ s ∧ (normN m s).1 * 10 ^ (s - (normN m s).2) = m ∧ (0 < (normN m s).2 → (normN m s).1 % 10 ≠ 0) ∧ (normN m s).1 ≤ m := by
  intro s
  induction s with
  | zero => intro m; simp [normN]
  | succ s ih =>
    intro m
    rw [normN]
    cases h : (m % 10 == 0)
    · simp at h
      simp [h]
    · simp at h
      simp only [if_true]
      obtain ⟨h1, h2, h3, h4⟩ := ih (m / 10)
      refine ⟨by omega, ?_, h3, by omega⟩
      rw [show s + 1 - (normN (m / 10) s).2 = (s - (normN (m / 10) s).2) + 1 by omega, Nat.pow_succ, ← Nat.mul_assoc, h2]
      omega

/-- A number that is right. -/
structure Rt (n s : Int) : Prop where
  lo : -999999999999999999 ≤ n
  hi : n ≤ 999999999999999999
  s0 : 0 ≤ s
  s9 : s ≤ 9
  nz : 0 < s → n % 10 ≠ 0

def rightF (n s : Int) : Bool := !(decide (n < -999999999999999999) || decide (999999999999999999 < n) || decide (s < 0) || decide (9 < s) || decide (0 < s) && n.tmod 10 == 0)
theorem tmod10 (n : Int) : (n.tmod 10 == 0) = (n % 10 == 0) := by
  have h : (n.tmod 10 = 0) ↔ (n % 10 = 0) := by
    constructor
    · intro h; have := Int.dvd_of_tmod_eq_zero h; omega
    · intro h; exact Int.tmod_eq_zero_of_dvd (Int.dvd_of_emod_eq_zero h)
  cases e : (n % 10 == 0) <;> simp at e ⊢ <;> omega
theorem rightF_iff (n s : Int) : rightF n s = true ↔ Rt n s := by
  unfold rightF
  rw [tmod10]
  simp only [Bool.not_eq_true', Bool.or_eq_false_iff, Bool.and_eq_false_iff, decide_eq_false_iff_not, beq_eq_false_iff_ne]
  constructor
  · rintro ⟨⟨⟨⟨h1, h2⟩, h3⟩, h4⟩, h5⟩
    exact ⟨by omega, by omega, by omega, by omega, fun h => by omega⟩
  · rintro ⟨h1, h2, h3, h4, h5⟩
    exact ⟨⟨⟨⟨by omega, by omega⟩, by omega⟩, by omega⟩, by omega⟩
theorem Rt.zero : Rt 0 0 := ⟨by omega, by omega, by omega, by omega, by omega⟩
theorem Rt.whole {n : Int} (h1 : -999999999999999999 ≤ n) (h2 : n ≤ 999999999999999999) : Rt n 0 := ⟨h1, h2, by omega, by omega, by omega⟩

theorem pow10_pos (n : Nat) : 0 < (10 : Int) ^ n := Int.pow_pos (by omega)
/-- One form for each value. -/
theorem uniq0 (n k : Int) (s d : Nat) (h : n * 10 ^ d = k) (hk : 0 < d → k % 10 ≠ 0) : d = 0 := by
  rcases Nat.eq_zero_or_pos d with h0 | h0
  · exact h0
  · exfalso
    apply hk h0
    obtain ⟨d', rfl⟩ : ∃ d', d = d' + 1 := ⟨d - 1, by omega⟩
    rw [← h, Int.pow_succ, ← Int.mul_assoc]
    exact Int.mul_emod_left _ _
theorem uniq1 (n k : Int) (s t : Nat) (h : n * 10 ^ t = k * 10 ^ s) (hst : s ≤ t) (hk : 0 < t → k % 10 ≠ 0) : s = t ∧ n = k := by
  obtain ⟨d, rfl⟩ : ∃ d, t = s + d := ⟨t - s, by omega⟩
  have h' : n * 10 ^ d = k := by
    have : n * 10 ^ d * 10 ^ s = k * 10 ^ s := by
      rw [← h, Int.mul_assoc, ← Int.pow_add, Nat.add_comm d s]
    exact Int.eq_of_mul_eq_mul_right (by have := pow10_pos s; omega) this
  have h0 := uniq0 n k s d h' (fun h => hk (by omega))
  subst h0
  simp at h'
  exact ⟨rfl, h'⟩
theorem uniq (n k : Int) (s t : Nat) (h : n * 10 ^ t = k * 10 ^ s) (hn : 0 < s → n % 10 ≠ 0) (hk : 0 < t → k % 10 ≠ 0) : s = t ∧ n = k := by
  rcases Nat.le_total s t with h1 | h1
  · exact uniq1 n k s t h h1 hk
  · have := uniq1 k n t s h.symm h1 hn
    exact ⟨this.1.symm, this.2.symm⟩

/-- A number's value, in thousand millionths. -/
def val9 (n s : Int) : Int := n * 10 ^ (9 - s).toNat
theorem val9_up (n : Int) (s t : Nat) (h1 : s ≤ t) (h2 : t ≤ 9) : val9 n s = n * 10 ^ (t - s) * 10 ^ (9 - t) := by
  unfold val9
  rw [Int.mul_assoc, ← Int.pow_add]
  congr 2
  omega
theorem uniq9 (n k s t : Int) (h : val9 n s = val9 k t) (s0 : 0 ≤ s) (s9 : s ≤ 9) (t0 : 0 ≤ t) (t9 : t ≤ 9) (hn : 0 < s → n % 10 ≠ 0) (hk : 0 < t → k % 10 ≠ 0) : n = k ∧ s = t := by
  obtain ⟨a, rfl⟩ : ∃ a : Nat, s = (a : Int) := ⟨s.toNat, by omega⟩
  obtain ⟨b, rfl⟩ : ∃ b : Nat, t = (b : Int) := ⟨t.toNat, by omega⟩
  have h1 : n * 10 ^ b = k * 10 ^ a := by
    unfold val9 at h
    have ha : ((9 : Int) - (a : Int)).toNat = 9 - a := by omega
    have hb : ((9 : Int) - (b : Int)).toNat = 9 - b := by omega
    rw [ha, hb] at h
    have e1 : n * 10 ^ b * 10 ^ 9 = n * 10 ^ (9 - a) * (10 ^ a * 10 ^ b) := by
      rw [Int.mul_assoc n, Int.mul_assoc n, ← Int.pow_add, ← Int.pow_add, ← Int.pow_add]
      congr 2
      omega
    have e2 : k * 10 ^ a * 10 ^ 9 = k * 10 ^ (9 - b) * (10 ^ a * 10 ^ b) := by
      rw [Int.mul_assoc k, Int.mul_assoc k, ← Int.pow_add, ← Int.pow_add, ← Int.pow_add]
      congr 2
      omega
    exact Int.eq_of_mul_eq_mul_right (by have := pow10_pos 9; omega) (e1.trans ((by rw [h] : _ = _).trans e2.symm))
  have := uniq n k a b h1 (fun h => hn (by omega)) (fun h => hk (by omega))
  omega
theorem Rt.uniq {n s k t : Int} (h1 : Rt n s) (h2 : Rt k t) (h : val9 n s = val9 k t) : n = k ∧ s = t := uniq9 n k s t h h1.s0 h1.s9 h2.s0 h2.s9 h1.nz h2.nz

/-- A sign and bits. -/
def sgn (neg : Bool) (m : Nat) : Int := if neg then -(m : Int) else m
/-- What a value fits to: number, scale, error. -/
def fitW (neg : Bool) (m s : Nat) : Int × Int × Int :=
  if decide (999999999999999999 < (normN (m / 10 ^ (s - 9)) (min s 9)).1) then (0, 0, 53) else if (normN (m / 10 ^ (s - 9)) (min s 9)).1 == 0 then (0, 0, 0) else
    (sgn neg (normN (m / 10 ^ (s - 9)) (min s 9)).1, ((normN (m / 10 ^ (s - 9)) (min s 9)).2 : Int), 0)
def fitZ (z : Int) (s : Nat) : Int × Int × Int := fitW (decide (z < 0)) z.natAbs s
theorem fitW_zero (neg : Bool) (s : Nat) : fitW neg 0 s = (0, 0, 0) := by
  unfold fitW
  have h := (normN_spec (min s 9) (0 / 10 ^ (s - 9))).2.2.2
  rw [Nat.zero_div] at h ⊢
  have h' : (normN 0 (min s 9)).1 = 0 := by omega
  simp [h']
theorem fitW_Z (neg : Bool) (m s : Nat) : fitW neg m s = fitZ (sgn neg m) s := by
  rcases Nat.eq_zero_or_pos m with h | h
  · subst h
    have : sgn neg 0 = 0 := by cases neg <;> rfl
    unfold fitZ
    rw [this, fitW_zero, Int.natAbs_zero, fitW_zero]
  · unfold fitZ sgn
    cases neg
    · have : decide ((m : Int) < 0) = false := by simp
      simp [this]
    · have : decide (-(m : Int) < 0) = true := by simp; omega
      rw [if_pos rfl, this, Int.natAbs_neg, Int.natAbs_natCast]
theorem sgn_mul (neg : Bool) (m k : Nat) : sgn neg (m * k) = sgn neg m * k := by
  unfold sgn
  cases neg <;> simp [Int.neg_mul]
theorem sgn_emod (neg : Bool) (m : Nat) (h : m % 10 ≠ 0) : sgn neg m % 10 ≠ 0 := by
  unfold sgn
  cases neg <;> simp <;> omega
theorem pow_cast (k : Nat) : ((10 ^ k : Nat) : Int) = (10 : Int) ^ k := by simp
theorem norm_val (neg : Bool) (m s : Nat) (hs : s ≤ 9) : val9 (sgn neg (normN m s).1) ((normN m s).2 : Int) = sgn neg m * 10 ^ (9 - s) := by
  obtain ⟨h1, h2, h3, h4⟩ := normN_spec s m
  rw [val9_up _ _ s h1 hs]
  congr 1
  conv => rhs; rw [← h2]
  rw [sgn_mul, pow_cast]
theorem fitW_exact (neg : Bool) (m s : Nat) (hs : s ≤ 9) (n k : Int) (h : Rt n k) (hv : sgn neg m * 10 ^ (9 - s) = val9 n k) : fitW neg m s = (n, k, 0) := by
  obtain ⟨h1, h2, h3, h4⟩ := normN_spec s m
  have hu := uniq9 (sgn neg (normN m s).1) n ((normN m s).2 : Int) k (by rw [norm_val neg m s hs, hv]) (by omega) (by omega) h.s0 h.s9 (fun h => sgn_emod _ _ (h3 (by omega))) h.nz
  unfold fitW
  rw [show s - 9 = 0 by omega, show min s 9 = s by omega, Nat.pow_zero, Nat.div_one]
  obtain ⟨u1, u2⟩ := hu
  have hlo := h.lo
  have hhi := h.hi
  have hle : (normN m s).1 ≤ 999999999999999999 := by
    rw [← u1] at hlo hhi
    unfold sgn at hlo hhi
    cases neg <;> simp at hlo hhi <;> omega
  rw [decide_eq_false (by omega)]
  cases e : ((normN m s).1 == 0)
  · simp [u1, u2]
  · simp at e
    have hn : n = 0 := by rw [← u1, e]; unfold sgn; cases neg <;> rfl
    have hk : k = 0 := by
      have := h.nz
      have := h.s0
      subst hn
      rcases Int.lt_or_le 0 k with h' | h'
      · exact absurd rfl (h.nz h')
      · omega
    simp [hn, hk]
theorem fitW_cases (neg : Bool) (m s : Nat) : (fitW neg m s = (0, 0, 53)) ∨ (∃ n k, fitW neg m s = (n, k, 0) ∧ Rt n k ∧ (s ≤ 9 → val9 n k = sgn neg m * 10 ^ (9 - s)) ∧ val9 n k = sgn neg (m / 10 ^ (s - 9)) * 10 ^ (9 - min s 9)) := by
  obtain ⟨h1, h2, h3, h4⟩ := normN_spec (min s 9) (m / 10 ^ (s - 9))
  have hv := norm_val neg (m / 10 ^ (s - 9)) (min s 9) (by omega)
  unfold fitW
  cases e1 : decide (999999999999999999 < (normN (m / 10 ^ (s - 9)) (min s 9)).1)
  · right
    simp at e1
    have hv2 : s ≤ 9 → sgn neg (m / 10 ^ (s - 9)) * 10 ^ (9 - min s 9) = sgn neg m * 10 ^ (9 - s) := fun h => by
      rw [show s - 9 = 0 by omega, show min s 9 = s by omega, Nat.pow_zero, Nat.div_one]
    cases e2 : ((normN (m / 10 ^ (s - 9)) (min s 9)).1 == 0)
    · simp at e2
      refine ⟨_, _, rfl, ⟨?_, ?_, by omega, by omega, fun h => sgn_emod _ _ (h3 (by omega))⟩, fun h => hv.trans (hv2 h), hv⟩
      · unfold sgn; cases neg <;> simp <;> omega
      · unfold sgn; cases neg <;> simp <;> omega
    · simp at e2
      have : m / 10 ^ (s - 9) = 0 := by rw [← h2, e2]; simp
      have h0 : val9 0 0 = sgn neg (m / 10 ^ (s - 9)) * 10 ^ (9 - min s 9) := by
        rw [this]
        cases neg <;> simp [val9, sgn]
      exact ⟨0, 0, rfl, Rt.zero, fun h => h0.trans (hv2 h), h0⟩
  · left; rfl
theorem fitW_small (neg : Bool) (m s : Nat) (hs : s ≤ 9) (hm : m ≤ 999999999999999999) : ∃ n k, fitW neg m s = (n, k, 0) ∧ Rt n k ∧ val9 n k = sgn neg m * 10 ^ (9 - s) := by
  rcases fitW_cases neg m s with h | ⟨n, k, h, h1, h2, -⟩
  · exfalso
    obtain ⟨-, -, -, h4⟩ := normN_spec (min s 9) (m / 10 ^ (s - 9))
    unfold fitW at h
    rw [show s - 9 = 0 by omega, show min s 9 = s by omega, Nat.pow_zero, Nat.div_one] at h h4
    rw [decide_eq_false (by omega)] at h
    simp at h
    split at h <;> simp at h
  · exact ⟨n, k, h, h1, h2 hs⟩

theorem sgn_Z (z : Int) : sgn (decide (z < 0)) z.natAbs = z := by
  unfold sgn
  cases e : decide (z < 0) <;> simp at e ⊢ <;> omega
theorem fitZ_exact (z : Int) (s : Nat) (hs : s ≤ 9) (n k : Int) (h : Rt n k) (hv : z * 10 ^ (9 - s) = val9 n k) : fitZ z s = (n, k, 0) := fitW_exact _ _ _ hs n k h (by rw [sgn_Z]; exact hv)
theorem fitZ_cases (z : Int) (s : Nat) : (fitZ z s = (0, 0, 53)) ∨ (∃ n k, fitZ z s = (n, k, 0) ∧ Rt n k ∧ (s ≤ 9 → val9 n k = z * 10 ^ (9 - s))) := by
  rcases fitW_cases (decide (z < 0)) z.natAbs s with h | ⟨n, k, h, h1, h2, -⟩
  · exact .inl h
  · exact .inr ⟨n, k, h, h1, fun hs => by rw [h2 hs, sgn_Z]⟩
theorem fitZ_small (z : Int) (s : Nat) (hs : s ≤ 9) (hm : z.natAbs ≤ 999999999999999999) : ∃ n k, fitZ z s = (n, k, 0) ∧ Rt n k ∧ val9 n k = z * 10 ^ (9 - s) := by
  obtain ⟨n, k, h, h1, h2⟩ := fitW_small (decide (z < 0)) z.natAbs s hs hm
  exact ⟨n, k, h, h1, by rw [h2, sgn_Z]⟩

/-- One number brought to another's scale. -/
def lvl (n s t : Int) : Int := n * 10 ^ (max s t - s).toNat
theorem lvl_val (n s t : Int) (s0 : 0 ≤ s) (s9 : s ≤ 9) (t9 : t ≤ 9) : lvl n s t * 10 ^ (9 - (max s t).toNat) = val9 n s := by
  unfold lvl val9
  rw [Int.mul_assoc, ← Int.pow_add]
  congr 2
  omega
def addF (n s k t : Int) : Int × Int × Int := fitZ (lvl n s t + lvl k t s) (max s t).toNat
def subF (n s k t : Int) : Int × Int × Int := fitZ (lvl n s t - lvl k t s) (max s t).toNat
def mulF (n s k t : Int) : Int × Int × Int := fitZ (n * k) (s + t).toNat
def divF (n s k t : Int) : Int × Int × Int := if k == 0 then (0, 0, 52) else fitZ ((n * 10 ^ (9 + t - s).toNat).tdiv k) 9
def idivF (n s k t : Int) : Int × Int × Int := if k == 0 then (0, 0, 52) else fitZ ((lvl n s t).tdiv (lvl k t s)) 0
def modF (n s k t : Int) : Int × Int × Int := if k == 0 then (0, 0, 52) else fitZ ((lvl n s t).tmod (lvl k t s)) (max s t).toNat
def cmpF (n s k t : Int) : Int := if lvl n s t - lvl k t s == 0 then 0 else if decide (lvl n s t - lvl k t s < 0) then -1 else 1

section
variable {n s k t : Int} (ha : Rt n s) (hb : Rt k t)
include ha hb
theorem add_val : (lvl n s t + lvl k t s) * 10 ^ (9 - (max s t).toNat) = val9 n s + val9 k t := by
  have h1 := lvl_val n s t ha.s0 ha.s9 hb.s9
  have h2 := lvl_val k t s hb.s0 hb.s9 ha.s9
  rw [Int.max_comm t s] at h2
  rw [Int.add_mul, h1, h2]
theorem sub_val : (lvl n s t - lvl k t s) * 10 ^ (9 - (max s t).toNat) = val9 n s - val9 k t := by
  have h1 := lvl_val n s t ha.s0 ha.s9 hb.s9
  have h2 := lvl_val k t s hb.s0 hb.s9 ha.s9
  rw [Int.max_comm t s] at h2
  rw [Int.sub_mul, h1, h2]
theorem max9 : (max s t).toNat ≤ 9 := by have := ha.s9; have := hb.s9; omega
theorem addF_cases : (addF n s k t = (0, 0, 53)) ∨ (∃ u v, addF n s k t = (u, v, 0) ∧ Rt u v ∧ val9 u v = val9 n s + val9 k t) := by
  rcases fitZ_cases (lvl n s t + lvl k t s) (max s t).toNat with h | ⟨u, v, h, h1, h2⟩
  · exact .inl h
  · exact .inr ⟨u, v, h, h1, by rw [h2 (max9 ha hb), add_val ha hb]⟩
theorem addF_exact (u v : Int) (h : Rt u v) (hv : val9 u v = val9 n s + val9 k t) : addF n s k t = (u, v, 0) :=
  fitZ_exact _ _ (max9 ha hb) u v h (by rw [add_val ha hb, hv])
theorem subF_cases : (subF n s k t = (0, 0, 53)) ∨ (∃ u v, subF n s k t = (u, v, 0) ∧ Rt u v ∧ val9 u v = val9 n s - val9 k t) := by
  rcases fitZ_cases (lvl n s t - lvl k t s) (max s t).toNat with h | ⟨u, v, h, h1, h2⟩
  · exact .inl h
  · exact .inr ⟨u, v, h, h1, by rw [h2 (max9 ha hb), sub_val ha hb]⟩
theorem cmpF_val : cmpF n s k t = if val9 n s = val9 k t then 0 else if val9 n s < val9 k t then -1 else 1 := by
  have h := sub_val ha hb
  have hp := pow10_pos (9 - (max s t).toNat)
  unfold cmpF
  generalize lvl n s t - lvl k t s = z at *
  generalize (10 : Int) ^ (9 - (max s t).toNat) = p at *
  rcases Int.lt_trichotomy z 0 with hz | hz | hz
  · have h1 : z * p < 0 := Int.mul_neg_of_neg_of_pos hz hp
    have e1 : (z == 0) = false := by simp; omega
    have e2 : decide (z < 0) = true := by simp; omega
    rw [e1, e2, if_neg (by simp), if_pos rfl, if_neg (by omega), if_pos (by omega)]
  · subst hz
    rw [Int.zero_mul] at h
    simp
    intro h'
    omega
  · have h1 : 0 < z * p := Int.mul_pos hz hp
    have e1 : (z == 0) = false := by simp; omega
    have e2 : decide (z < 0) = false := by simp; omega
    rw [e1, e2, if_neg (by simp), if_neg (by simp), if_neg (by omega), if_neg (by omega)]
end
end Go.Proofs.YtaoobajokhcimaaGreatDoor
