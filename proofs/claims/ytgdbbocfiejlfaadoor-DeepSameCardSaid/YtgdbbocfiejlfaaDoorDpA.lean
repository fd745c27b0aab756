/- Trees as plain data: the order of attributes; being the same in depth. Plain. -/
import Derived.Lib.Bytealg
set_option linter.unusedSimpArgs false
set_option linter.unusedVariables false
namespace Go.Proofs.YtgdbbocfiejlfaaDoor

/-- The order of texts. -/
def strC (t u : ByteArray) : Int := Lib.compareBytes t.data.toList u.data.toList
theorem cb_self : ∀ l, Lib.compareBytes l l = 0
  | [] => rfl
  | a :: l => by
    unfold Lib.compareBytes
    rw [if_neg (UInt8.lt_irrefl a), if_neg (UInt8.lt_irrefl a)]
    exact cb_self l
theorem cb_neg : ∀ l m, Lib.compareBytes l m = - Lib.compareBytes m l
  | [], [] => rfl
  | [], _ :: _ => rfl
  | _ :: _, [] => rfl
  | a :: l, b :: m => by
    unfold Lib.compareBytes
    by_cases h1 : a < b
    · have h2 : ¬ b < a := fun h => UInt8.lt_irrefl a (UInt8.lt_trans h1 h)
      rw [if_pos h1, if_neg h2, if_pos h1]
    · by_cases h2 : b < a
      · rw [if_neg h1, if_pos h2, if_pos h2]
        rfl
      · rw [if_neg h1, if_neg h2, if_neg h2, if_neg h1]
        exact cb_neg l m
theorem cb_vals : ∀ l m, Lib.compareBytes l m = -1 ∨ Lib.compareBytes l m = 0 ∨ Lib.compareBytes l m = 1
  | [], [] => .inr (.inl rfl)
  | [], _ :: _ => .inl rfl
  | _ :: _, [] => .inr (.inr rfl)
  | a :: l, b :: m => by
    unfold Lib.compareBytes
    split
    · exact .inl rfl
    · split
      · exact .inr (.inr rfl)
      · exact cb_vals l m
theorem cb_zero : ∀ l m, Lib.compareBytes l m = 0 → l = m
  | [], [], _ => rfl
  | [], _ :: _, h => by cases h
  | _ :: _, [], h => by cases h
  | a :: l, b :: m, h => by
    unfold Lib.compareBytes at h
    split at h
    · cases h
    · split at h
      · cases h
      · rename_i h1 h2
        have : a = b := by
          have h3 := UInt8.not_lt.1 h1
          have h4 := UInt8.not_lt.1 h2
          exact UInt8.le_antisymm h4 h3
        subst this
        rw [cb_zero l m h]
theorem cb_trans : ∀ l m k, Lib.compareBytes l m ≤ 0 → Lib.compareBytes m k ≤ 0 → Lib.compareBytes l k ≤ 0 ∧ (Lib.compareBytes l m < 0 → Lib.compareBytes l k < 0) ∧ (Lib.compareBytes m k < 0 → Lib.compareBytes l k < 0)
  | [], [], k, h1, h2 => ⟨h2, fun h => by simp [Lib.compareBytes] at h, fun h => h⟩
  | [], b :: m, [], h1, h2 => by simp [Lib.compareBytes] at h2
  | [], b :: m, c :: k, h1, h2 => by simp [Lib.compareBytes]
  | a :: l, [], k, h1, h2 => by simp [Lib.compareBytes] at h1
  | a :: l, b :: m, [], h1, h2 => by simp [Lib.compareBytes] at h2
  | a :: l, b :: m, c :: k, h1, h2 => by
    have ih := cb_trans l m k
    have t1 : ∀ x y z : UInt8, x < y → y < z → x < z := fun x y z => UInt8.lt_trans
    have e1 : ∀ x y : UInt8, ¬ x < y → ¬ y < x → x = y := fun x y p q => UInt8.le_antisymm (UInt8.not_lt.1 q) (UInt8.not_lt.1 p)
    unfold Lib.compareBytes at h1 h2 ⊢
    by_cases ab : a < b
    · by_cases bc : b < c
      · have ac := t1 _ _ _ ab bc
        simp [ab, bc, ac]
      · by_cases cb : c < b
        · simp [bc, cb] at h2
        · have := e1 _ _ bc cb
          subst this
          simp [ab]
    · by_cases ba : b < a
      · simp [ab, ba] at h1
      · have := e1 _ _ ab ba
        subst this
        by_cases bc : a < c
        · simp [bc]
        · by_cases cb : c < a
          · simp [bc, cb] at h2
          · simp only [bc, cb, ab, if_false] at h1 h2 ⊢
            exact ih h1 h2

theorem less_cb : ∀ l m, Op.bytesLess l m = decide (Lib.compareBytes l m < 0)
  | [], [] => rfl
  | [], _ :: _ => rfl
  | _ :: _, [] => rfl
  | a :: l, b :: m => by
    unfold Op.bytesLess Lib.compareBytes
    by_cases h1 : a < b
    · simp [h1]
    · by_cases h2 : b < a
      · have : (a == b) = false := by
          cases e : a == b
          · rfl
          · rw [beq_iff_eq] at e
            subst e
            exact absurd h2 (UInt8.lt_irrefl a)
        simp [h1, h2, this]
      · have : a = b := UInt8.le_antisymm (UInt8.not_lt.1 h2) (UInt8.not_lt.1 h1)
        subst this
        simp [h1, less_cb l m]
theorem eq_cb (l m : List UInt8) : (l == m) = decide (Lib.compareBytes l m = 0) := by
  cases e : l == m
  · refine (decide_eq_false fun h => ?_).symm
    rw [cb_zero l m h] at e
    simp at e
  · refine (decide_eq_true ?_).symm
    rw [beq_iff_eq] at e
    subst e
    exact cb_self l

instance : LawfulBEq ByteArray where
  eq_of_beq {a b} h := by
    cases a with | mk a => cases b with | mk b =>
    have : (a == b) = true := h
    rw [eq_of_beq this]
  rfl {a} := by
    cases a with | mk a =>
    show (a == a) = true
    exact beq_self_eq_true a
/-- An attribute: its name, its value. -/
abbrev Pr := ByteArray × ByteArray
/-- The order of attributes: by names, then by values. -/
def prC (x y : Pr) : Int := if strC x.1 y.1 != 0 then strC x.1 y.1 else strC x.2 y.2
theorem strC_self (t : ByteArray) : strC t t = 0 := cb_self _
theorem strC_neg (t u : ByteArray) : strC t u = - strC u t := cb_neg _ _
theorem strC_zero {t u : ByteArray} (h : strC t u = 0) : t = u := by
  have := cb_zero _ _ h
  exact ByteArray.ext (Array.ext' this)
theorem strC_trans {t u v : ByteArray} (h1 : strC t u ≤ 0) (h2 : strC u v ≤ 0) : strC t v ≤ 0 ∧ (strC t u < 0 → strC t v < 0) ∧ (strC u v < 0 → strC t v < 0) := cb_trans _ _ _ h1 h2
theorem prC_self (x : Pr) : prC x x = 0 := by
  unfold prC
  rw [strC_self, strC_self]
  rfl
theorem prC_neg (x y : Pr) : prC x y = - prC y x := by
  unfold prC
  rw [strC_neg x.1 y.1, strC_neg x.2 y.2]
  by_cases h : strC y.1 x.1 = 0
  · simp [h]
  · have h1 : (-strC y.1 x.1 != 0) = true := by simp; omega
    have h2 : (strC y.1 x.1 != 0) = true := by simp; omega
    rw [h1, h2]
    rfl
theorem prC_zero {x y : Pr} (h : prC x y = 0) : x = y := by
  unfold prC at h
  by_cases h1 : strC x.1 y.1 = 0
  · rw [h1] at h
    exact Prod.ext (strC_zero h1) (strC_zero (by simpa using h))
  · have h2 : (strC x.1 y.1 != 0) = true := by simp; omega
    rw [h2] at h
    exact absurd h h1
theorem prC_trans {x y z : Pr} (h1 : prC x y ≤ 0) (h2 : prC y z ≤ 0) : prC x z ≤ 0 ∧ (prC x y < 0 → prC x z < 0) ∧ (prC y z < 0 → prC x z < 0) := by
  unfold prC at h1 h2 ⊢
  by_cases a : strC x.1 y.1 = 0
  · have e := strC_zero a
    rw [e]
    rw [e, strC_self] at h1
    simp only [bne_self_eq_false, Bool.false_eq_true, if_false] at h1
    by_cases b : strC y.1 z.1 = 0
    · rw [b] at h2 ⊢
      simp only [bne_self_eq_false, Bool.false_eq_true, if_false] at h2 ⊢
      have h := strC_trans h1 h2
      rw [strC_self]
      simp only [bne_self_eq_false, Bool.false_eq_true, if_false]
      exact h
    · have b' : (strC y.1 z.1 != 0) = true := by simp; omega
      rw [b'] at h2 ⊢
      simp only [if_true] at h2 ⊢
      exact ⟨h2, fun _ => by omega, fun h => h⟩
  · have a' : (strC x.1 y.1 != 0) = true := by simp; omega
    rw [a'] at h1 ⊢
    simp only [if_true] at h1 ⊢
    by_cases b : strC y.1 z.1 = 0
    · have e := strC_zero b
      rw [← e, a']
      simp only [if_true]
      exact ⟨h1, fun h => h, fun _ => by omega⟩
    · have b' : (strC y.1 z.1 != 0) = true := by simp; omega
      rw [b'] at h2 ⊢
      simp only [if_true] at h2 ⊢
      have h := strC_trans h1 h2
      have c : (strC x.1 z.1 != 0) = true := by
        have := h.2.1 (by omega)
        simp; omega
      rw [c]
      exact h
/-- Not behind. -/
def prLe (x y : Pr) : Bool := !decide (prC y x < 0)
theorem prLe_iff (x y : Pr) : prLe x y = true ↔ prC x y ≤ 0 := by
  unfold prLe
  rw [prC_neg y x]
  simp
theorem prLe_trans (a b c : Pr) (h1 : prLe a b = true) (h2 : prLe b c = true) : prLe a c = true := by
  rw [prLe_iff] at h1 h2 ⊢
  exact (prC_trans h1 h2).1
theorem prLe_total (a b : Pr) : (prLe a b || prLe b a) = true := by
  rw [Bool.or_eq_true, prLe_iff, prLe_iff, prC_neg b a]
  omega
theorem prLe_antisymm (a b : Pr) (h1 : prLe a b = true) (h2 : prLe b a = true) : a = b := by
  rw [prLe_iff] at h1 h2
  rw [prC_neg b a] at h2
  exact prC_zero (by omega)
/-- The same attributes, in whatever order. -/
def attrsF (as bs : List Pr) : Bool := as.isPerm bs
theorem attrs_sort (as bs : List Pr) : attrsF as bs = decide (as.mergeSort prLe = bs.mergeSort prLe) := by
  unfold attrsF
  rw [Bool.eq_iff_iff, List.isPerm_iff, decide_eq_true_iff]
  constructor
  · intro h
    exact List.Perm.eq_of_pairwise (fun a b _ _ h1 h2 => prLe_antisymm a b h1 h2) (List.pairwise_mergeSort prLe_trans prLe_total as) (List.pairwise_mergeSort prLe_trans prLe_total bs)
      (((List.mergeSort_perm as _).trans h).trans (List.mergeSort_perm bs _).symm)
  · intro h
    have h1 := List.mergeSort_perm as prLe
    rw [h] at h1
    exact h1.symm.trans (List.mergeSort_perm bs _)
theorem perm_counts : ∀ (as bs : List Pr), as.length = bs.length → (∀ p ∈ as, as.count p = bs.count p) → as.Perm bs
  | [], bs, hl, _ => by
    have : bs = [] := List.length_eq_zero_iff.1 hl.symm
    subst this
    exact .refl _
  | a :: r, bs, hl, h => by
    have ha : a ∈ bs := by
      have := h a (by simp)
      rw [List.count_cons_self] at this
      exact List.count_pos_iff.1 (by omega)
    have hp := List.perm_cons_erase ha
    refine .trans (.cons a ?_) hp.symm
    refine perm_counts r (bs.erase a) ?_ fun p hp' => ?_
    · rw [List.length_erase_of_mem ha, ← hl]
      simp
    · have h1 := h p (List.mem_cons_of_mem _ hp')
      have h2 := hp.count_eq p
      rw [List.count_cons] at h1 h2
      omega
theorem attrs_counts (as bs : List Pr) : attrsF as bs = (as.length == bs.length && as.all fun p => as.count p == bs.count p) := by
  unfold attrsF
  rw [Bool.eq_iff_iff, List.isPerm_iff]
  simp only [Bool.and_eq_true, beq_iff_eq, List.all_eq_true]
  exact ⟨fun h => ⟨h.length_eq, fun p _ => h.count_eq p⟩, fun h => perm_counts as bs h.1 h.2⟩

/-- A node, its kids of some kind. -/
structure Nd (K : Type) where
  k : Int
  n : ByteArray
  v : ByteArray
  as : List Pr
  ks : List K
/-- A tree at most so high. -/
def Tr : Nat → Type
  | 0 => Empty
  | h + 1 => Nd (Tr h)
def kindT : (h : Nat) → Tr h → Int
  | 0, t => nomatch t
  | _ + 1, t => Nd.k t
def plainT (h : Nat) (ks : List (Tr h)) : List (Tr h) := ks.filter fun t => kindT h t != 5
def listF {α : Type} (f : α → α → Bool) : List α → List α → Bool
  | [], [] => true
  | a :: r, b :: s => f a b && listF f r s
  | _, _ => false
theorem listF_len {α : Type} (f : α → α → Bool) : ∀ xs ys, xs.length ≠ ys.length → listF f xs ys = false
  | [], [], h => by simp at h
  | [], _ :: _, _ => rfl
  | _ :: _, [], _ => rfl
  | a :: r, b :: s, h => by
    show (f a b && listF f r s) = false
    rw [listF_len f r s (by simpa using h), Bool.and_false]
theorem listF_refl {α : Type} {f : α → α → Bool} (h : ∀ a, f a a = true) : ∀ xs, listF f xs xs = true
  | [] => rfl
  | a :: r => by
    show (f a a && listF f r r) = true
    rw [h, listF_refl h r]
    rfl
theorem listF_symm {α : Type} {f : α → α → Bool} (h : ∀ a b, f a b = f b a) : ∀ xs ys, listF f xs ys = listF f ys xs
  | [], [] => rfl
  | [], _ :: _ => rfl
  | _ :: _, [] => rfl
  | a :: r, b :: s => by
    show (f a b && listF f r s) = (f b a && listF f s r)
    rw [h a b, listF_symm h r s]
theorem listF_trans {α : Type} {f : α → α → Bool} (h : ∀ a b c, f a b = true → f b c = true → f a c = true) : ∀ xs ys zs, listF f xs ys = true → listF f ys zs = true → listF f xs zs = true
  | [], [], [], _, _ => rfl
  | [], [], _ :: _, _, h2 => by cases h2
  | [], _ :: _, _, h1, _ => by cases h1
  | _ :: _, [], _, h1, _ => by cases h1
  | _ :: _, _ :: _, [], _, h2 => by cases h2
  | a :: r, b :: s, c :: t, h1, h2 => by
    replace h1 : (f a b && listF f r s) = true := h1
    replace h2 : (f b c && listF f s t) = true := h2
    show (f a c && listF f r t) = true
    rw [Bool.and_eq_true] at h1 h2 ⊢
    exact ⟨h a b c h1.1 h2.1, listF_trans h r s t h1.2 h2.2⟩
/-- Two nodes, by their kids' likeness. -/
def nodeF {K : Type} (f : K → K → Bool) (pl : List K → List K) (a b : Nd K) : Bool :=
  if a.k != b.k then false
  else if a.k == 2 then a.n == b.n && (attrsF a.as b.as && listF f (pl a.ks) (pl b.ks))
  else if a.k == 1 then listF f (pl a.ks) (pl b.ks)
  else if a.k == 3 then a.n == b.n && a.v == b.v
  else if a.k == 4 || a.k == 5 then a.v == b.v
  else true
/-- Two trees are the same in depth. -/
def deepF : (h : Nat) → Tr h → Tr h → Bool
  | 0, a, _ => nomatch a
  | h + 1, a, b => nodeF (deepF h) (plainT h) a b
theorem deepF_succ (h : Nat) (a b : Nd (Tr h)) : deepF (h + 1) a b = nodeF (deepF h) (plainT h) a b := rfl
theorem deep_refl : ∀ h (a : Tr h), deepF h a a = true
  | 0, a => nomatch a
  | h + 1, (a : Nd (Tr h)) => by
    have hk := listF_refl (deep_refl h) (plainT h a.ks)
    have ha : attrsF a.as a.as = true := List.isPerm_iff.2 (.refl _)
    show nodeF (deepF h) (plainT h) a a = true
    unfold nodeF
    simp [hk, ha]
theorem deep_symm : ∀ h (a b : Tr h), deepF h a b = deepF h b a
  | 0, a, _ => nomatch a
  | h + 1, (a : Nd (Tr h)), (b : Nd (Tr h)) => by
    have hk := listF_symm (deep_symm h) (plainT h a.ks) (plainT h b.ks)
    have ha : attrsF a.as b.as = attrsF b.as a.as := by
      unfold attrsF
      rw [Bool.eq_iff_iff, List.isPerm_iff, List.isPerm_iff]
      exact ⟨fun h => h.symm, fun h => h.symm⟩
    have hn : (a.n == b.n) = (b.n == a.n) := by rw [Bool.eq_iff_iff, beq_iff_eq, beq_iff_eq]; exact eq_comm
    have hv : (a.v == b.v) = (b.v == a.v) := by rw [Bool.eq_iff_iff, beq_iff_eq, beq_iff_eq]; exact eq_comm
    show nodeF (deepF h) (plainT h) a b = nodeF (deepF h) (plainT h) b a
    unfold nodeF
    by_cases e : a.k = b.k
    · rw [hk, ha, hn, hv, e]
    · have e1 : (a.k != b.k) = true := by simpa using e
      have e2 : (b.k != a.k) = true := by simpa using Ne.symm e
      rw [e1, e2]
      rfl
theorem deep_trans : ∀ h (a b c : Tr h), deepF h a b = true → deepF h b c = true → deepF h a c = true
  | 0, a, _, _ => nomatch a
  | h + 1, (a : Nd (Tr h)), (b : Nd (Tr h)), (c : Nd (Tr h)) => by
    intro h1 h2
    have hk := listF_trans (deep_trans h) (plainT h a.ks) (plainT h b.ks) (plainT h c.ks)
    have ha : attrsF a.as b.as = true → attrsF b.as c.as = true → attrsF a.as c.as = true := by
      unfold attrsF
      simp only [List.isPerm_iff]
      exact fun h1 h2 => h1.trans h2
    rw [deepF_succ] at h1 h2 ⊢
    unfold nodeF at h1 h2 ⊢
    by_cases e : a.k = b.k
    · by_cases e' : b.k = c.k
      · rw [e, e'] at h1 ⊢
        rw [e'] at h2
        have e0 : (c.k != c.k) = false := by simp
        rw [e0] at h1 h2 ⊢
        simp only [Bool.false_eq_true, if_false] at h1 h2 ⊢
        split
        · rename_i hc
          rw [hc] at h1 h2
          simp only [if_true, Bool.and_eq_true, beq_iff_eq] at h1 h2 ⊢
          exact ⟨h1.1.trans h2.1, ha h1.2.1 h2.2.1, hk h1.2.2 h2.2.2⟩
        · rename_i hc
          simp only [Bool.not_eq_true] at hc
          rw [hc] at h1 h2
          simp only [Bool.false_eq_true, if_false] at h1 h2
          split
          · rename_i hc
            rw [hc] at h1 h2
            simp only [if_true] at h1 h2
            exact hk h1 h2
          · rename_i hc
            simp only [Bool.not_eq_true] at hc
            rw [hc] at h1 h2
            simp only [Bool.false_eq_true, if_false] at h1 h2
            split
            · rename_i hc
              rw [hc] at h1 h2
              simp only [if_true, Bool.and_eq_true, beq_iff_eq] at h1 h2 ⊢
              exact ⟨h1.1.trans h2.1, h1.2.trans h2.2⟩
            · rename_i hc
              simp only [Bool.not_eq_true] at hc
              rw [hc] at h1 h2
              simp only [Bool.false_eq_true, if_false] at h1 h2
              split
              · rename_i hc
                rw [hc] at h1 h2
                simp only [if_true, beq_iff_eq] at h1 h2 ⊢
                exact h1.trans h2
              · rfl
      · have e1 : (b.k != c.k) = true := by simpa using e'
        rw [e1] at h2
        cases h2
    · have e1 : (a.k != b.k) = true := by simpa using e
      rw [e1] at h1
      cases h1
/-- With a comment behind its kids. -/
theorem deep_comment (h : Nat) (a : Nd (Tr h)) (c : Tr h) (hc : kindT h c = 5) (hk : (a.k == 2 || a.k == 1) = true) : deepF (h + 1) a ({ a with ks := a.ks ++ [c] } : Nd (Tr h)) = true := by
  have e : plainT h (a.ks ++ [c]) = plainT h a.ks := by
    unfold plainT
    rw [List.filter_append]
    simp [hc]
  have hl := listF_refl (deep_refl h) (plainT h a.ks)
  have ha : attrsF a.as a.as = true := List.isPerm_iff.2 (.refl _)
  rw [deepF_succ]
  unfold nodeF
  simp only [e, hl, ha]
  cases e2 : (a.k == 2)
  · rw [e2] at hk
    have e1 : (a.k == 1) = true := hk
    simp [e1]
  · simp [e2]
end Go.Proofs.YtgdbbocfiejlfaaDoor
