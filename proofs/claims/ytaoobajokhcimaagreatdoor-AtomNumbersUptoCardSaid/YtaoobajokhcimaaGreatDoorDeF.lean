/- The document's digits, plain: what a row of digits fits to. -/
import Derived.Test.YtaoobajokhcimaaGreatDoorDeE
set_option linter.unusedSimpArgs false
set_option linter.unusedVariables false
namespace Go.Proofs.YtaoobajokhcimaaGreatDoor

def normL : List Int → Nat → List Int × Nat
  | l, 0 => (l, 0)
  | [], s + 1 => normL [] s
  | d :: l, s + 1 => if d == 0 then normL l s else (d :: l, s + 1)
theorem normL_spec : ∀ (s : Nat) (l : List Int), Dg l → (dval (normL l s).1).toNat = (normN (dval l).toNat s).1 ∧ (normL l s).2 = (normN (dval l).toNat s).2 ∧ Dg (normL l s).1 ∧ (Nr l → Nr (normL l s).1) ∧ (normL l s).1.length ≤ l.length := by
  intro s
  induction s with
  | zero => intro l h; simp [normL, normN, h]
  | succ s ih =>
    intro l h
    cases l with
    | nil =>
      have := ih [] Dg.nil
      simp only [normL, normN, dval] at this ⊢
      simpa using this
    | cons d l =>
      have hd := h.head
      have h0 := dval_nonneg h.tail
      have hv : dval (d :: l) = d + 10 * dval l := rfl
      rw [normL, normN]
      cases e : (d == 0)
      · simp at e
        have : ((dval (d :: l)).toNat % 10 == 0) = false := by rw [hv]; simp; omega
        simp only [this, Bool.false_eq_true, if_false]
        exact ⟨trivial, trivial, h, id, Nat.le_refl _⟩
      · simp at e
        have e1 : ((dval (d :: l)).toNat % 10 == 0) = true := by rw [hv]; simp; omega
        have e2 : (dval (d :: l)).toNat / 10 = (dval l).toNat := by rw [hv]; omega
        simp only [e1, e2, if_true]
        obtain ⟨i1, i2, i3, i4, i5⟩ := ih l h.tail
        exact ⟨i1, i2, i3, fun hn => i4 hn.tail, by simp; omega⟩
theorem dval_dropN {l : List Int} (h : Dg l) : ∀ k, (dval (l.drop k)).toNat = (dval l).toNat / 10 ^ k := by
  induction l with
  | nil => intro k; simp [dval]
  | cons d l ih =>
    intro k
    cases k with
    | zero => simp
    | succ k =>
      have hd := h.head
      have h0 := dval_nonneg h.tail
      rw [List.drop_succ_cons, ih h.tail k, Nat.pow_succ, Nat.mul_comm, ← Nat.div_div_eq_div_mul]
      congr 1
      simp only [dval]
      omega
/-- What a row fits to: the number, the scale, whether it fits. -/
def fitD (neg : Bool) (l : List Int) (s : Nat) : Int × Int × Bool :=
  if decide (18 < (trimL (normL (l.drop (s - 9)) (min s 9)).1).length) then (0, 0, false) else
    (if neg then -dval (trimL (normL (l.drop (s - 9)) (min s 9)).1) else dval (trimL (normL (l.drop (s - 9)) (min s 9)).1), ((normL (l.drop (s - 9)) (min s 9)).2 : Int), true)
theorem fitD_val (neg : Bool) {l : List Int} (h : Dg l) (s : Nat) : fitD neg l s = if (fitW neg (dval l).toNat s).2.2 == 0 then ((fitW neg (dval l).toNat s).1, (fitW neg (dval l).toNat s).2.1, true) else (0, 0, false) := by
  obtain ⟨n1, n2, n3, -, -⟩ := normL_spec (min s 9) (l.drop (s - 9)) (h.drop _)
  rw [dval_dropN h] at n1 n2
  obtain ⟨t1, t2, t3, -⟩ := trimL_spec (normL (l.drop (s - 9)) (min s 9)).1
  have t2' := t2 n3
  obtain ⟨-, h2, h3, h4⟩ := normN_spec (min s 9) ((dval l).toNat / 10 ^ (s - 9))
  have h0 := dval_nonneg n3
  unfold fitD fitW
  rw [← n1, ← n2] at *
  have hz : (dval (normL (l.drop (s - 9)) (min s 9)).1).toNat = 0 → (normL (l.drop (s - 9)) (min s 9)).2 = 0 := fun hz => by
    rcases Nat.eq_zero_or_pos (normL (l.drop (s - 9)) (min s 9)).2 with h' | h'
    · exact h'
    · exact absurd (by rw [hz]) (h3 h')
  generalize (normL (l.drop (s - 9)) (min s 9)).2 = k at *
  generalize (normL (l.drop (s - 9)) (min s 9)).1 = m at *
  have e18 : decide (18 < (trimL m).length) = decide (999999999999999999 < (dval m).toNat) := by
    rcases Nat.lt_or_ge 18 (trimL m).length with hl | hl
    · have g := dval_ge t2' t3 (by intro e; rw [e] at hl; simp at hl)
      have g2 := pow_mono (show 18 ≤ (trimL m).length - 1 by omega)
      have g3 : (10 : Int) ^ 18 = 1000000000000000000 := by decide
      rw [decide_eq_true hl, decide_eq_true (by omega)]
    · have g := dval_lt t2'
      have g2 := pow_mono hl
      have g3 : (10 : Int) ^ 18 = 1000000000000000000 := by decide
      rw [decide_eq_false (by omega), decide_eq_false (by omega)]
  rw [e18, t1]
  cases e : decide (999999999999999999 < (dval m).toNat)
  · simp only [Bool.false_eq_true, if_false]
    cases e0 : ((dval m).toNat == 0)
    · simp only [Bool.false_eq_true, if_false]
      simp
      unfold sgn
      cases neg <;> simp <;> omega
    · simp at e0
      have e1 : dval m = 0 := by omega
      rw [hz (by omega), e1]
      simp
  · simp

/-- A number read from its digits, the highest first. -/
def horn : List Int → Int → Int
  | [], n => n
  | d :: l, n => horn l (10 * n + d)
theorem horn_rev (l : List Int) (n : Int) : horn l.reverse n = n * 10 ^ l.length + dval l := by
  induction l generalizing n with
  | nil => simp [horn, dval]
  | cons d l ih =>
    have hs : ∀ (a b : List Int) (n : Int), horn (a ++ b) n = horn b (horn a n) := by
      intro a
      induction a with
      | nil => intro b n; rfl
      | cons x a ih => intro b n; exact ih b _
    rw [List.reverse_cons, hs, ih]
    simp only [horn, dval, List.length_cons, Int.pow_succ]
    rw [Int.mul_add, ← Int.mul_assoc, ← Int.mul_assoc, Int.mul_comm 10 n, Int.mul_assoc n 10, Int.mul_comm 10 (10 ^ l.length), Int.mul_assoc]
    omega
end Go.Proofs.YtaoobajokhcimaaGreatDoor
