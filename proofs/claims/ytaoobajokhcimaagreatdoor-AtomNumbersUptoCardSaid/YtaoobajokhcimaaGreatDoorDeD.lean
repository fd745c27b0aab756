/- The document's digits, plain: rows of decimal digits, the lowest first, and the whole numbers that they are. -/
import Derived.Test.YtaoobajokhcimaaGreatDoorDeP
set_option linter.unusedSimpArgs false
set_option linter.unusedVariables false
namespace Go.Proofs.YtaoobajokhcimaaGreatDoor

def dval : List Int → Int
  | [] => 0
  | d :: l => d + 10 * dval l
def Dg (l : List Int) : Prop := ∀ d ∈ l, 0 ≤ d ∧ d ≤ 9
/-- No nought at the end. -/
def Nr (l : List Int) : Prop := l.getLast? ≠ some 0
theorem Dg.nil : Dg [] := fun d h => by cases h
theorem Nr.nil : Nr [] := by simp [Nr]
theorem Dg.cons {d : Int} {l : List Int} (h : 0 ≤ d ∧ d ≤ 9) (hl : Dg l) : Dg (d :: l) := fun x hx => by
  rcases List.mem_cons.1 hx with rfl | hx
  · exact h
  · exact hl x hx
theorem Dg.head {d : Int} {l : List Int} (h : Dg (d :: l)) : 0 ≤ d ∧ d ≤ 9 := h d (by simp)
theorem Dg.tail {d : Int} {l : List Int} (h : Dg (d :: l)) : Dg l := fun x hx => h x (by simp [hx])
theorem Dg.app {a b : List Int} (ha : Dg a) (hb : Dg b) : Dg (a ++ b) := fun x hx => by
  rcases List.mem_append.1 hx with hx | hx
  · exact ha x hx
  · exact hb x hx
theorem Dg.left {a b : List Int} (h : Dg (a ++ b)) : Dg a := fun x hx => h x (by simp [hx])
theorem Dg.right {a b : List Int} (h : Dg (a ++ b)) : Dg b := fun x hx => h x (by simp [hx])
theorem Dg.drop {a : List Int} (h : Dg a) (k : Nat) : Dg (a.drop k) := fun x hx => h x (List.mem_of_mem_drop hx)
theorem Dg.at {a : List Int} (h : Dg a) {k : Nat} {x : Int} (hx : a[k]? = some x) : 0 ≤ x ∧ x ≤ 9 := h x (List.mem_of_getElem? hx)
theorem Nr.tail {d : Int} {l : List Int} (h : Nr (d :: l)) : Nr l := by
  cases l with
  | nil => exact Nr.nil
  | cons e l => simpa [Nr] using h
theorem Nr.drop {a : List Int} (h : Nr a) : ∀ k, Nr (a.drop k) := by
  induction a with
  | nil => intro k; simp [Nr]
  | cons x a ih =>
    intro k
    cases k with
    | zero => exact h
    | succ k => exact ih h.tail k
theorem dval_app (a b : List Int) : dval (a ++ b) = dval a + 10 ^ a.length * dval b := by
  induction a with
  | nil => simp [dval]
  | cons d a ih =>
    simp only [List.cons_append, dval, ih, List.length_cons, Int.pow_succ, Int.mul_add]
    rw [Int.mul_comm (10 ^ a.length) 10, Int.mul_assoc]
    omega
theorem dval_nonneg {l : List Int} (h : Dg l) : 0 ≤ dval l := by
  induction l with
  | nil => simp [dval]
  | cons d l ih =>
    have := ih h.tail
    have := h.head
    simp only [dval]
    omega
theorem dval_lt {l : List Int} (h : Dg l) : dval l < 10 ^ l.length := by
  induction l with
  | nil => simp [dval]
  | cons d l ih =>
    have := ih h.tail
    have := h.head
    simp only [dval, List.length_cons, Int.pow_succ]
    omega
theorem dval_pos {l : List Int} (h : Dg l) (hn : Nr l) (h0 : l ≠ []) : 0 < dval l := by
  induction l with
  | nil => exact absurd rfl h0
  | cons d l ih =>
    have hd := h.head
    simp only [dval]
    cases l with
    | nil =>
      have : d ≠ 0 := fun e => hn (by simp [e])
      simp [dval]
      omega
    | cons e l =>
      have := ih h.tail hn.tail (by simp)
      omega
theorem dval_zero {l : List Int} (h : Dg l) (hn : Nr l) : dval l = 0 ↔ l = [] := by
  constructor
  · intro h0
    cases l with
    | nil => rfl
    | cons d l => have := dval_pos h hn (by simp); omega
  · rintro rfl; rfl
theorem dval_ge {l : List Int} (h : Dg l) (hn : Nr l) (h0 : l ≠ []) : 10 ^ (l.length - 1) ≤ dval l := by
  induction l with
  | nil => exact absurd rfl h0
  | cons d l ih =>
    have hd := h.head
    cases l with
    | nil =>
      have := dval_pos h hn h0
      simp only [List.length_cons, List.length_nil]
      show (10 : Int) ^ 0 ≤ _
      rw [Int.pow_zero]
      omega
    | cons e l =>
      have := ih h.tail hn.tail (by simp)
      simp only [dval, List.length_cons] at *
      rw [show l.length + 1 + 1 - 1 = (l.length + 1 - 1) + 1 by omega, Int.pow_succ]
      omega
theorem pow_mono {a b : Nat} (h : a ≤ b) : (10 : Int) ^ a ≤ 10 ^ b := by
  obtain ⟨c, rfl⟩ : ∃ c, b = a + c := ⟨b - a, by omega⟩
  rw [Int.pow_add]
  have h1 := pow10_pos a
  have h2 := pow10_pos c
  have := Int.mul_le_mul_of_nonneg_left (show (1 : Int) ≤ 10 ^ c by omega) (show (0 : Int) ≤ 10 ^ a by omega)
  omega
theorem len_lt {a b : List Int} (ha : Dg a) (hb : Dg b) (hn : Nr b) (h : a.length < b.length) : dval a < dval b := by
  have h1 := dval_lt ha
  have h2 := dval_ge hb hn (by intro e; rw [e] at h; simp at h)
  have h3 := pow_mono (show a.length ≤ b.length - 1 by omega)
  omega
/-- A number below a power of ten has so few digits. -/
theorem len_le {a : List Int} (ha : Dg a) (hn : Nr a) (k : Nat) (h : dval a < 10 ^ k) : a.length ≤ k := by
  rcases Nat.lt_or_ge k a.length with h1 | h1
  · have h2 := dval_ge ha hn (by intro e; rw [e] at h1; simp at h1)
    have h3 := pow_mono (show k ≤ a.length - 1 by omega)
    omega
  · exact h1
/-- Rows of digits that are one number are one row. -/
theorem dval_inj : ∀ {a b : List Int}, Dg a → Dg b → Nr a → Nr b → dval a = dval b → a = b := by
  intro a
  induction a with
  | nil =>
    intro b ha hb na nb h
    exact ((dval_zero hb nb).1 h.symm).symm
  | cons x a ih =>
    intro b ha hb na nb h
    cases b with
    | nil => exact (dval_zero ha na).1 h
    | cons y b =>
      simp only [dval] at h
      have h1 := ha.head
      have h2 := hb.head
      have : x = y := by omega
      subst this
      rw [ih ha.tail hb.tail na.tail nb.tail (by omega)]

/-- The digits of a number. -/
def digs (n : Nat) : List Int := if h : n = 0 then [] else ((n % 10 : Nat) : Int) :: digs (n / 10)
termination_by n
decreasing_by omega
theorem digs_zero : digs 0 = [] := by rw [digs]; simp
theorem digs_step {n : Nat} (h : n ≠ 0) : digs n = ((n % 10 : Nat) : Int) :: digs (n / 10) := by rw [digs]; simp [h]
theorem digs_spec (n : Nat) : dval (digs n) = n ∧ Dg (digs n) ∧ Nr (digs n) ∧ (digs n = [] ↔ n = 0) := by
  induction n using Nat.strongRecOn with
  | _ n ih =>
    rcases Nat.eq_zero_or_pos n with h | h
    · subst h
      rw [digs_zero]
      exact ⟨rfl, Dg.nil, Nr.nil, by simp⟩
    · have h0 : n ≠ 0 := by omega
      obtain ⟨h1, h2, h3, h4⟩ := ih (n / 10) (by omega)
      rw [digs_step h0]
      refine ⟨?_, Dg.cons ⟨by omega, by omega⟩ h2, ?_, by simp; omega⟩
      · simp only [dval, h1]; omega
      · cases e : digs (n / 10) with
        | nil =>
          have := h4.1 e
          simp [Nr]
          omega
        | cons x l =>
          rw [e] at h3
          simpa [Nr] using h3
theorem digs_dval {l : List Int} (h : Dg l) (hn : Nr l) : digs (dval l).toNat = l := by
  obtain ⟨h1, h2, h3, -⟩ := digs_spec (dval l).toNat
  have := dval_nonneg h
  exact dval_inj h2 h h3 hn (by omega)

/-- Without noughts at the end. -/
def trimL (l : List Int) : List Int := (l.reverse.dropWhile (· == 0)).reverse
theorem trimL_snoc (l : List Int) (d : Int) : trimL (l ++ [d]) = if d == 0 then trimL l else l ++ [d] := by
  unfold trimL
  rw [List.reverse_append]
  simp only [List.reverse_singleton, List.singleton_append, List.dropWhile_cons]
  split <;> simp
theorem trimL_nil : trimL [] = [] := rfl
theorem snoc_ind {p : List Int → Prop} (h0 : p []) (h1 : ∀ l d, p l → p (l ++ [d])) (l : List Int) : p l := by
  have : ∀ l : List Int, p l.reverse := by
    intro l
    induction l with
    | nil => exact h0
    | cons d l ih => rw [List.reverse_cons]; exact h1 _ _ ih
  rw [← List.reverse_reverse l]
  exact this _
theorem trimL_spec (l : List Int) : dval (trimL l) = dval l ∧ (Dg l → Dg (trimL l)) ∧ Nr (trimL l) ∧ ∃ k, trimL l = l.take k ∧ k ≤ l.length := by
  induction l using snoc_ind with
  | h0 => exact ⟨rfl, id, Nr.nil, 0, rfl, by simp⟩
  | h1 l d ih =>
    rw [trimL_snoc]
    cases e : (d == 0)
    · refine ⟨rfl, id, ?_, l.length + 1, ?_, by simp⟩
      · simp [Nr] at e ⊢
        exact e
      · rw [List.take_of_length_le (by simp)]
        rfl
    · simp at e
      subst e
      obtain ⟨h1, h2, h3, k, h4, h5⟩ := ih
      refine ⟨?_, fun h => h2 h.left, h3, k, ?_, by simp; omega⟩
      · simp [h1, dval_app, dval]
      · simp [h4, List.take_append, Nat.sub_eq_zero_of_le h5]
theorem trimL_id {l : List Int} (h : Dg l) (hn : Nr l) : trimL l = l := by
  obtain ⟨h1, h2, h3, -⟩ := trimL_spec l
  exact dval_inj (h2 h) h h3 hn h1

/-- Sums. -/
def plusL : List Int → List Int → Int → List Int
  | [], [], c => if decide (0 < c) then [c] else []
  | x :: a, [], c => (x + c) % 10 :: plusL a [] ((x + c) / 10)
  | [], y :: b, c => (y + c) % 10 :: plusL [] b ((y + c) / 10)
  | x :: a, y :: b, c => (x + y + c) % 10 :: plusL a b ((x + y + c) / 10)
theorem plusL_b (b : List Int) : ∀ (c : Int), Dg b → 0 ≤ c → c ≤ 1 → dval (plusL [] b c) = dval b + c ∧ Dg (plusL [] b c) := by
  induction b with
  | nil =>
    intro c _ h0 h1
    unfold plusL
    cases e : decide (0 < c) <;> simp at e
    · simp [dval, Dg.nil]; omega
    · simp [dval]
      exact Dg.cons ⟨h0, by omega⟩ Dg.nil
  | cons y b ih =>
    intro c hb h0 h1
    have hx := hb.head
    obtain ⟨i1, i2⟩ := ih ((y + c) / 10) hb.tail (by omega) (by omega)
    unfold plusL
    refine ⟨?_, Dg.cons ⟨by omega, by omega⟩ i2⟩
    simp only [dval, i1]
    omega
theorem plusL_spec (a : List Int) : ∀ (b : List Int) (c : Int), Dg a → Dg b → 0 ≤ c → c ≤ 1 → dval (plusL a b c) = dval a + dval b + c ∧ Dg (plusL a b c) := by
  induction a with
  | nil =>
    intro b c _ hb h0 h1
    have := plusL_b b c hb h0 h1
    simp only [dval]
    exact ⟨by omega, this.2⟩
  | cons x a ih =>
    intro b c ha hb h0 h1
    have hx := ha.head
    cases b with
    | nil =>
      obtain ⟨i1, i2⟩ := ih [] ((x + c) / 10) ha.tail hb (by omega) (by omega)
      unfold plusL
      refine ⟨?_, Dg.cons ⟨by omega, by omega⟩ i2⟩
      simp only [dval, i1]
      omega
    | cons y b =>
      have hy := hb.head
      obtain ⟨i1, i2⟩ := ih b ((x + y + c) / 10) ha.tail hb.tail (by omega) (by omega)
      unfold plusL
      refine ⟨?_, Dg.cons ⟨by omega, by omega⟩ i2⟩
      simp only [dval, i1]
      omega

/-- Differences, the greater first. -/
def minusL : List Int → List Int → Int → List Int
  | [], _, _ => []
  | x :: a, [], c => (if decide (x - c < 0) then x - c + 10 else x - c) :: minusL a [] (if decide (x - c < 0) then 1 else 0)
  | x :: a, y :: b, c => (if decide (x - c - y < 0) then x - c - y + 10 else x - c - y) :: minusL a b (if decide (x - c - y < 0) then 1 else 0)
theorem minusL_spec (a : List Int) : ∀ (b : List Int) (c : Int), Dg a → Dg b → 0 ≤ c → c ≤ 1 → b.length ≤ a.length → (∃ k : Int, dval (minusL a b c) = dval a - dval b - c + 10 ^ a.length * k ∧ (k = 0 ∨ k = 1)) ∧ Dg (minusL a b c) ∧ (minusL a b c).length = a.length := by
  induction a with
  | nil =>
    intro b c _ hb h0 h1 hl
    have : b = [] := List.length_eq_zero_iff.1 (by simpa using hl)
    subst this
    unfold minusL
    refine ⟨⟨c, ?_, by omega⟩, Dg.nil, rfl⟩
    simp [dval]
    omega
  | cons x a ih =>
    intro b c ha hb h0 h1 hl
    have hx := ha.head
    cases b with
    | nil =>
      unfold minusL
      rcases Int.lt_or_le (x - c) 0 with e | e
      · rw [decide_eq_true e, if_pos rfl, if_pos rfl]
        obtain ⟨⟨k, i1, i2⟩, i3, i4⟩ := ih [] 1 ha.tail hb (by omega) (by omega) (by simp)
        refine ⟨⟨k, ?_, i2⟩, Dg.cons ⟨by omega, by omega⟩ i3, by simp [i4]⟩
        simp only [dval, i1, List.length_cons, Int.pow_succ]
        rcases i2 with rfl | rfl <;> omega
      · rw [decide_eq_false (by omega), if_neg (by simp), if_neg (by simp)]
        obtain ⟨⟨k, i1, i2⟩, i3, i4⟩ := ih [] 0 ha.tail hb (by omega) (by omega) (by simp)
        refine ⟨⟨k, ?_, i2⟩, Dg.cons ⟨by omega, by omega⟩ i3, by simp [i4]⟩
        simp only [dval, i1, List.length_cons, Int.pow_succ]
        rcases i2 with rfl | rfl <;> omega
    | cons y b =>
      have hy := hb.head
      have hl' : b.length ≤ a.length := by simpa using hl
      unfold minusL
      rcases Int.lt_or_le (x - c - y) 0 with e | e
      · rw [decide_eq_true e, if_pos rfl, if_pos rfl]
        obtain ⟨⟨k, i1, i2⟩, i3, i4⟩ := ih b 1 ha.tail hb.tail (by omega) (by omega) hl'
        refine ⟨⟨k, ?_, i2⟩, Dg.cons ⟨by omega, by omega⟩ i3, by simp [i4]⟩
        simp only [dval, i1, List.length_cons, Int.pow_succ]
        rcases i2 with rfl | rfl <;> omega
      · rw [decide_eq_false (by omega), if_neg (by simp), if_neg (by simp)]
        obtain ⟨⟨k, i1, i2⟩, i3, i4⟩ := ih b 0 ha.tail hb.tail (by omega) (by omega) hl'
        refine ⟨⟨k, ?_, i2⟩, Dg.cons ⟨by omega, by omega⟩ i3, by simp [i4]⟩
        simp only [dval, i1, List.length_cons, Int.pow_succ]
        rcases i2 with rfl | rfl <;> omega
theorem minus_val {a b : List Int} (ha : Dg a) (hb : Dg b) (hl : b.length ≤ a.length) (h : dval b ≤ dval a) : dval (trimL (minusL a b 0)) = dval a - dval b ∧ Dg (trimL (minusL a b 0)) ∧ Nr (trimL (minusL a b 0)) := by
  obtain ⟨⟨k, h1, h2⟩, h3, h4⟩ := minusL_spec a b 0 ha hb (by omega) (by omega) hl
  obtain ⟨t1, t2, t3, -⟩ := trimL_spec (minusL a b 0)
  refine ⟨?_, t2 h3, t3⟩
  rw [t1]
  have g1 := dval_lt h3
  have g2 := dval_lt ha
  have g3 := dval_nonneg hb
  rw [h4] at g1
  rcases h2 with rfl | rfl <;> omega
end Go.Proofs.YtaoobajokhcimaaGreatDoor
