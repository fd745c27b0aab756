/- The document's digits, plain: the order, and that sums and products keep their form. -/
import Derived.Test.YtaoobajokhcimaaGreatDoorDeD
set_option linter.unusedSimpArgs false
set_option linter.unusedVariables false
namespace Go.Proofs.YtaoobajokhcimaaGreatDoor

theorem Nr.cons {d : Int} {l : List Int} (h : l = [] → d ≠ 0) (hl : Nr l) : Nr (d :: l) := by
  cases l with
  | nil => simp [Nr]; exact h rfl
  | cons e l => simpa [Nr] using hl
theorem Nr.last {d : Int} (h : Nr [d]) : d ≠ 0 := fun e => h (by simp [e])
theorem plusL_nrb (b : List Int) : ∀ (c : Int), Dg b → Nr b → 0 ≤ c → c ≤ 1 → Nr (plusL [] b c) ∧ (plusL [] b c = [] → b = [] ∧ c = 0) := by
  induction b with
  | nil =>
    intro c _ _ h0 h1
    unfold plusL
    cases e : decide (0 < c) <;> simp at e
    · simp [Nr.nil]; omega
    · refine ⟨?_, by simp⟩
      rw [if_pos rfl]
      exact Nr.cons (fun _ => by omega) Nr.nil
  | cons y b ih =>
    intro c hb hn h0 h1
    have hx := hb.head
    obtain ⟨i1, i2⟩ := ih ((y + c) / 10) hb.tail hn.tail (by omega) (by omega)
    unfold plusL
    refine ⟨Nr.cons (fun e => ?_) i1, by simp⟩
    obtain ⟨rfl, h3⟩ := i2 e
    have := hn.last
    omega
theorem plusL_nr (a : List Int) : ∀ (b : List Int) (c : Int), Dg a → Dg b → Nr a → Nr b → 0 ≤ c → c ≤ 1 → Nr (plusL a b c) ∧ (plusL a b c = [] → a = [] ∧ b = [] ∧ c = 0) := by
  induction a with
  | nil =>
    intro b c _ hb _ hn h0 h1
    have := plusL_nrb b c hb hn h0 h1
    exact ⟨this.1, fun h => ⟨rfl, this.2 h⟩⟩
  | cons x a ih =>
    intro b c ha hb na nb h0 h1
    have hx := ha.head
    cases b with
    | nil =>
      obtain ⟨i1, i2⟩ := ih [] ((x + c) / 10) ha.tail hb na.tail nb (by omega) (by omega)
      unfold plusL
      refine ⟨Nr.cons (fun e => ?_) i1, by simp⟩
      obtain ⟨rfl, -, h3⟩ := i2 e
      have := na.last
      omega
    | cons y b =>
      have hy := hb.head
      obtain ⟨i1, i2⟩ := ih b ((x + y + c) / 10) ha.tail hb.tail na.tail nb.tail (by omega) (by omega)
      unfold plusL
      refine ⟨Nr.cons (fun e => ?_) i1, by simp⟩
      obtain ⟨rfl, rfl, h3⟩ := i2 e
      have := na.last
      omega
theorem plusL_len (a : List Int) : ∀ (b : List Int) (c : Int), (plusL a b c).length ≤ max a.length b.length + 1 := by
  induction a with
  | nil =>
    intro b
    induction b with
    | nil => intro c; unfold plusL; split <;> simp
    | cons y b ih => intro c; unfold plusL; have := ih ((y + c) / 10); simp at this ⊢; omega
  | cons x a ih =>
    intro b c
    cases b with
    | nil => unfold plusL; have := ih [] ((x + c) / 10); simp at this ⊢; omega
    | cons y b => unfold plusL; have := ih b ((x + y + c) / 10); simp at this ⊢; omega

/-- The order, looked for from the highest digit on. -/
def cmpI (a b : List Int) : Nat → Int
  | 0 => 0
  | i + 1 => if a.getD i 0 == b.getD i 0 then cmpI a b i else if decide (a.getD i 0 < b.getD i 0) then -1 else 1
def cmpL (a b : List Int) : Int := if a.length == b.length then cmpI a b a.length else if decide (a.length < b.length) then -1 else 1
def sgnI (x y : Int) : Int := if x = y then 0 else if x < y then -1 else 1
theorem dval_take (a : List Int) (i : Nat) (h : i < a.length) : dval (a.take (i + 1)) = dval (a.take i) + 10 ^ i * a.getD i 0 := by
  rw [List.take_add_one, dval_app, List.length_take, show min i a.length = i by omega]
  congr 2
  rw [List.getD, List.getElem?_eq_getElem h]
  simp [dval]
theorem dval_drop (a : List Int) (i : Nat) (h : i < a.length) : dval (a.drop i) = a.getD i 0 + 10 * dval (a.drop (i + 1)) := by
  rw [List.drop_eq_getElem_cons h, List.getD, List.getElem?_eq_getElem h]
  rfl
theorem Dg.getD {a : List Int} (h : Dg a) (i : Nat) : 0 ≤ a.getD i 0 ∧ a.getD i 0 ≤ 9 := by
  rw [List.getD]
  cases e : a[i]? with
  | none => simp
  | some x => exact h.at e
theorem Dg.take {a : List Int} (h : Dg a) (k : Nat) : Dg (a.take k) := fun x hx => h x (List.mem_of_mem_take hx)
theorem cmpI_val {a b : List Int} (ha : Dg a) (hb : Dg b) : ∀ i, i ≤ a.length → i ≤ b.length → cmpI a b i = sgnI (dval (a.take i)) (dval (b.take i)) := by
  intro i
  induction i with
  | zero => intro _ _; simp [cmpI, sgnI]
  | succ i ih =>
    intro h1 h2
    have i1 := ih (by omega) (by omega)
    have ga := dval_lt (ha.take i)
    have gb := dval_lt (hb.take i)
    have na := dval_nonneg (ha.take i)
    have nb := dval_nonneg (hb.take i)
    rw [List.length_take, show min i a.length = i by omega] at ga
    rw [List.length_take, show min i b.length = i by omega] at gb
    rw [cmpI, i1, dval_take a i (by omega), dval_take b i (by omega)]
    have hx := ha.getD i
    have hy := hb.getD i
    generalize a.getD i 0 = x at *
    generalize b.getD i 0 = y at *
    generalize dval (a.take i) = A at *
    generalize dval (b.take i) = B at *
    generalize (10 : Int) ^ i = p at *
    rcases Int.lt_trichotomy x y with h | h | h
    · have : p * (x + 1) ≤ p * y := Int.mul_le_mul_of_nonneg_left (by omega) (by omega)
      rw [Int.mul_add] at this
      have e : (x == y) = false := by simp; omega
      rw [e, decide_eq_true h]
      unfold sgnI
      simp
      rw [if_neg (by omega), if_pos (by omega)]
    · subst h
      unfold sgnI
      simp
    · have : p * (y + 1) ≤ p * x := Int.mul_le_mul_of_nonneg_left (by omega) (by omega)
      rw [Int.mul_add] at this
      have e : (x == y) = false := by simp; omega
      rw [e, decide_eq_false (by omega)]
      unfold sgnI
      simp
      rw [if_neg (by omega), if_neg (by omega)]
theorem cmpL_val {a b : List Int} (ha : Dg a) (hb : Dg b) (na : Nr a) (nb : Nr b) : cmpL a b = sgnI (dval a) (dval b) := by
  unfold cmpL
  rcases Nat.lt_trichotomy a.length b.length with h | h | h
  · have := len_lt ha hb nb h
    have e : (a.length == b.length) = false := by simp; omega
    rw [e, decide_eq_true h]
    unfold sgnI
    simp
    rw [if_neg (by omega), if_pos (by omega)]
  · have := cmpI_val ha hb a.length (by omega) (by omega)
    rw [List.take_length, h, List.take_length] at this
    rw [h]
    simp
    exact this
  · have := len_lt hb ha na h
    have e : (a.length == b.length) = false := by simp; omega
    rw [e, decide_eq_false (by omega)]
    unfold sgnI
    simp
    rw [if_neg (by omega), if_neg (by omega)]
/-- Where the order says so, the lengths go with it. -/
theorem cmp_len {a b : List Int} (ha : Dg a) (hb : Dg b) (nb : Nr b) (h : dval b ≤ dval a) : b.length ≤ a.length := by
  rcases Nat.lt_or_ge a.length b.length with h1 | h1
  · have := len_lt ha hb nb h1
    omega
  · exact h1
theorem dval_zeros (n : Nat) : dval (List.replicate n 0) = 0 := by
  induction n with
  | zero => rfl
  | succ n ih => simp [List.replicate_succ, dval, ih]
theorem Dg.zeros (n : Nat) : Dg (List.replicate n 0) := fun d h => by
  have := List.eq_of_mem_replicate h
  omega
def upL (l : List Int) (n : Nat) : List Int := if l.length == 0 then l else List.replicate n 0 ++ l
theorem upL_spec {l : List Int} (h : Dg l) (hn : Nr l) (n : Nat) : dval (upL l n) = dval l * 10 ^ n ∧ Dg (upL l n) ∧ Nr (upL l n) ∧ (upL l n).length ≤ n + l.length := by
  unfold upL
  cases l with
  | nil => simp [dval, Dg.nil, Nr.nil]
  | cons d l =>
    simp only [List.length_cons, Nat.add_one_ne_zero, beq_iff_eq, if_false]
    rw [dval_app, dval_zeros, List.length_replicate]
    refine ⟨by rw [Int.zero_add, Int.mul_comm], (Dg.zeros n).app h, ?_, by simp⟩
    unfold Nr at *
    rw [List.getLast?_append]
    cases e : (d :: l).getLast? with
    | none => simp at e
    | some x => rw [e] at hn; simpa using hn
end Go.Proofs.YtaoobajokhcimaaGreatDoor
