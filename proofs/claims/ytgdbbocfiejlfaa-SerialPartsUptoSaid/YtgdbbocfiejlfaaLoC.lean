/- A region that draws its order, its values told by relations, its worlds by a relation of one's own: the text 'Lo' once more, any relation in the place of 'what was there stays'; and one relation more over all slots at once. -/
import Derived.Test.YtgdbbocfiejlfaaLo
namespace Go.Proofs.Ytgdbbocfiejlfaa.RC
open Go.RowKit

section
variable {R : World → World → Prop} {P : Program} {ops : Array Oper} {Q : Exit → Act → World → Prop}

/-- One operation's part. -/
def LStep (R : World → World → Prop) (P : Program) (ops : Array Oper) (Q : Exit → Act → World → Prop) (φ : Nat → Value → World → Prop) (n : Nat) (ds : List (Option Tmp)) (J : (Nat → Value) → World → Prop) (a : Act) (w : World) (i : Nat) (o : Oper) : Prop :=
  ∀ (x : Nat → Value) (w' : World), R w w' → J x w' → preds φ x w' o.after.toList → (∀ j, j < n → Region.waitsFor .any ops j i = true → x j = orig ds a j) →
    ∀ K : Act → World → Prop, (∀ v w'', φ i v w'' → J (upd x i v) w'' → R w' w'' → K ((frL ds 0 a x).put o.dst v) w'') → if Region.wanted o (yielded ops (frL ds 0 a x).tmps) = true then Oper.wp P o (frL ds 0 a x) w' K Q else K ((frL ds 0 a x).put o.dst undef) w'
def LSteps (R : World → World → Prop) (P : Program) (ops : Array Oper) (Q : Exit → Act → World → Prop) (φ : Nat → Value → World → Prop) (n : Nat) (ds : List (Option Tmp)) (J : (Nat → Value) → World → Prop) (a : Act) (w : World) : Nat → List Oper → Prop
  | _, [] => True
  | i, o :: l => LStep R P ops Q φ n ds J a w i o ∧ LSteps R P ops Q φ n ds J a w (i + 1) l
theorem LSteps_at {φ : Nat → Value → World → Prop} {n : Nat} {ds : List (Option Tmp)} {J : (Nat → Value) → World → Prop} {a : Act} {w : World} : ∀ (l : List Oper) (i k : Nat) (o : Oper), LSteps R P ops Q φ n ds J a w i l → l[k]? = some o → LStep R P ops Q φ n ds J a w (i + k) o
  | [], _, _, _, _, h => by simp at h
  | o' :: l, i, 0, o, hs, h => by simp at h; subst h; exact hs.1
  | o' :: l, i, k + 1, o, hs, h => by
    have := LSteps_at l (i + 1) k o hs.2 (by simpa using h)
    rwa [show i + 1 + k = i + (k + 1) by omega] at this

theorem wp_region_loose {id : Nat} {a : Act} {w : World} (n : Nat) (ds : List (Option Tmp)) (J : (Nat → Value) → World → Prop) (φ : Nat → Value → World → Prop)
    (tr : ∀ a b c, R a b → R b c → R a c) (dr : ∀ w, R w { w with drawn := w.drawn + 1 }) (hJ0 : ∀ w', J (orig ds a) w') (hm : P.follows .mixedOrders = true) (hB : looseB ops n ds = true)
    (hmono : ∀ i v w1 w2, φ i v w1 → R w1 w2 → φ i v w2)
    (hsteps : LSteps R P ops Q φ n ds J a w 0 (ops.toList.take n))
    (hend : ∀ x w', R w w' → (∀ i, i < n → φ i (x i) w') → J x w' → wpList P ops Q (ops.toList.drop n) (frL ds 0 a x) w') : (Code.region id ops true).wp P Q a w := by
  simp only [looseB, Bool.and_eq_true, Bool.or_eq_true, decide_eq_true_eq] at hB
  obtain ⟨⟨⟨⟨⟨hn, hds⟩, hap⟩, hback⟩, htail⟩, hseq⟩ := hB
  have hlen : ds.length = n := by rw [hds]; simp; omega
  have hdst : ∀ i o, i < n → ops[i]? = some o → (ds[i]?).getD none = o.dst := by
    intro i o hi ho
    rw [hds, List.getElem?_map, List.getElem?_take_of_lt hi]
    simp [ho]
  refine wp_region_any hm ?_
  have main : ∀ (f : Nat) (listed : Array Bool) (x : Nat → Value) (w' : World), HeadInv .any ops n listed → R w w' →
      (∀ i, i < n → listed.getD i true = true → φ i (x i) w') → J x w' → (∀ i, i < n → listed.getD i true = false → x i = orig ds a i) → unl listed n = f →
      wpAny P .any ops Q (f + (ops.size - n)) listed (frL ds 0 a x) w' := by
    intro f
    induction f with
    | zero =>
      intro listed x w' inv hb hφ hcp ho hu
      have hall := unl_zero listed n hu
      rw [listed_eq inv hall, Nat.zero_add]
      have hl : (ops.toList.drop n).length = ops.size - n := by simp
      rw [← hl]
      refine wpAny_of_seq (ops.toList.drop n) n _ _ _ (fun j => by simp) (by rw [hl]; exact hseq) (hend x w' hb (fun i hi => hφ i hi (hall i hi)) hcp)
    | succ f ih =>
      intro listed x w' inv hb hφ hcp ho hu
      rw [show f + 1 + (ops.size - n) = (f + (ops.size - n)) + 1 by omega]
      obtain ⟨k, hk, hku, hkl⟩ := unl_least listed n (by omega)
      have hsz := inv.size
      have hkr : k ∈ Region.ready .any ops listed := by
        rw [mem_ready]
        have hok : ∃ o, ops[k]? = some o := ⟨ops[k]'(by omega), by simp⟩
        obtain ⟨o, hok⟩ := hok
        refine ⟨hku, o, hok, fun e he hbd => ?_⟩
        have h1 := List.all_eq_true.1 hback k (List.mem_range.2 (by omega))
        rw [hok] at h1
        simp only [Option.map_some, Option.getD_some] at h1
        have h2 := Array.all_eq_true_iff_forall_mem.1 h1 e he
        simp only [hbd, Bool.not_true, Bool.false_or, decide_eq_true_eq] at h2
        have h3 := hkl e.on h2
        have hlt : e.on < listed.size := by omega
        simp [hlt] at h3 ⊢
        exact h3
      refine ⟨fun h => (by rw [h] at hkr; cases hkr), fun i hi => ?_⟩
      obtain ⟨hun, o, hoi, hall⟩ := mem_ready.1 hi
      have hilt : i < ops.size := (Array.getElem?_eq_some_iff.1 hoi).1
      have hin : i < n := by
        rcases htail with htail | ⟨hs, hc⟩
        · omega
        · rcases Nat.lt_or_ge i n with h | h
          · exact h
          · exact absurd hi (tail_waits hs hc (by omega) inv _ k rfl hk hku i h)
      have hst := LSteps_at (ops.toList.take n) 0 i o hsteps (by rw [List.getElem?_take_of_lt hin]; simpa using hoi)
      rw [Nat.zero_add] at hst
      have hpre : preds φ x w' o.after.toList := preds_of _ fun e he hbd => by
        have he' : e ∈ o.after := by simpa using he
        have h1 := hall e he' hbd
        have h4 := List.all_eq_true.1 hback i (List.mem_range.2 hilt)
        rw [hoi] at h4
        simp only [Option.map_some, Option.getD_some] at h4
        have h2 := Array.all_eq_true_iff_forall_mem.1 h4 e he'
        simp only [hbd, Bool.not_true, Bool.false_or, decide_eq_true_eq] at h2
        refine hφ e.on (by omega) ?_
        have hlt : e.on < listed.size := by omega
        simp [hlt] at h1 ⊢
        exact h1
      have hor : ∀ j, j < n → Region.waitsFor .any ops j i = true → x j = orig ds a j := fun j hj hw => by
        refine ho j hj ?_
        obtain ⟨oj, hoj, e, he, hbd, hon⟩ := Region.waitsFor_spec hw
        cases hl : listed.getD j true with
        | false => rfl
        | true =>
          have hlt : j < listed.size := by omega
          have hl' : listed.getD j false = true := by simp [hlt] at hl ⊢; exact hl
          have h5 := inv.closed j oj hoj hl' e he hbd
          rw [hon, getD_both hun] at h5
          cases h5
      have hstep := hst x w' hb hcp hpre hor (wpAny P .any ops Q (f + (ops.size - n)) (listed.setIfInBounds i true)) (fun v w'' hv hvc hg => by
        rw [← hdst i o hin hoi, frL_put v ds 0 i a x hap (by omega), Nat.zero_add]
        refine ih (listed.setIfInBounds i true) (upd x i v) w'' (inv.set hi hin) (tr _ _ _ hb hg) ?_ ?_ ?_ ?_
        · intro j hj hjl
          by_cases hji : j = i
          · subst hji; simpa [upd] using hv
          · rw [getD_set_ne true (Ne.symm hji)] at hjl
            simpa [upd, hji] using hmono j _ _ _ (hφ j hj hjl) hg
        · exact hvc
        · intro j hj hjl
          have hji : j ≠ i := by
            intro h; subst h
            have hlt : j < listed.size := by omega
            simp [hlt] at hjl
          rw [getD_set_ne true (Ne.symm hji)] at hjl
          simpa [upd, hji] using ho j hj hjl
        · have := unl_set listed i hun n hin
          omega)
      unfold wpOp
      simp only [hoi]
      split at hstep
      · rename_i hwt
        rw [if_pos hwt]
        exact .inl hstep
      · rename_i hwt
        rw [if_neg hwt]
        exact hstep
  have h0 := main n (Array.replicate ops.size false) (orig ds a) { w with drawn := w.drawn + 1 } ⟨by simp, (fun j oj hj hl => by rw [getD_replicate_false] at hl; cases hl), (fun t ht ht' => getD_rep _ _ ht')⟩ (dr w)
    (fun i hi hl => by rw [getD_rep _ _ (by omega)] at hl; cases hl) (hJ0 _) (fun _ _ _ => rfl) ?_
  · rw [frL_orig ds 0 a (orig ds a) (fun k hk => by simp) hap] at h0
    rwa [show n + (ops.size - n) = ops.size by omega] at h0
  · have hc : ∀ m, m ≤ ops.size → unl (Array.replicate ops.size false) m = m := by
      intro m
      induction m with
      | zero => intro _; rfl
      | succ m ih =>
        intro hm'
        simp only [unl]
        rw [ih (by omega), if_pos (getD_rep _ _ (by omega))]
    exact hc n hn

/-- A relation between a slot's value and the world that later growth keeps. -/
structure MP (R : World → World → Prop) where
  p : Value → World → Prop
  m : ∀ v w w', p v w → R w w' → p v w'
def MP.any : MP R := ⟨fun _ _ => True, fun _ _ _ _ _ => trivial⟩
/-- This value. -/
def MP.val (u : Value) : MP R := ⟨fun v _ => v = u, fun _ _ _ h _ => h⟩
def phi (l : List (MP R)) (i : Nat) (v : Value) (w : World) : Prop := ((l[i]?).getD MP.any).p v w
def phis (l : List (MP R)) (x : Nat → Value) (w : World) : Nat → Prop
  | i => match l with
    | [] => True
    | c :: r => c.p (x i) w ∧ phis r x w (i + 1)
theorem phis_of (x : Nat → Value) (w : World) : ∀ (l : List (MP R)) (i : Nat), (∀ k, k < l.length → ((l[k]?).getD MP.any).p (x (i + k)) w) → phis l x w i
  | [], _, _ => trivial
  | c :: r, i, h => ⟨by simpa using h 0 (by simp), phis_of x w r (i + 1) fun k hk => by
      have := h (k + 1) (by simpa using hk)
      rw [show i + 1 + k = i + (k + 1) by omega]
      simpa using this⟩

theorem region_loose {id : Nat} {a : Act} {w : World} (n : Nat) (ds : List (Option Tmp)) (J : (Nat → Value) → World → Prop) (l : List (MP R))
    (tr : ∀ a b c, R a b → R b c → R a c) (dr : ∀ w, R w { w with drawn := w.drawn + 1 }) (hJ0 : ∀ w', J (orig ds a) w') (hm : P.follows .mixedOrders = true) (hB : looseB ops n ds = true) (hl : l.length = n)
    (hsteps : LSteps R P ops Q (phi l) n ds J a w 0 (ops.toList.take n))
    (hend : ∀ x w', R w w' → phis l x w' 0 → J x w' → wpList P ops Q (ops.toList.drop n) (frL ds 0 a x) w') : (Code.region id ops true).wp P Q a w :=
  wp_region_loose n ds J (phi l) tr dr hJ0 hm hB (fun i v w1 w2 h hb => (((l[i]?).getD MP.any).m v w1 w2 h hb)) hsteps
    (fun x w' hb h hcp => hend x w' hb (phis_of x w' l 0 (fun k hk => by rw [Nat.zero_add]; exact h k (by omega))) hcp)

/-- THE STEPS, IN THE TEXT's ORDER, each with the relation that it leaves; behind them the tail. -/
def LS (R : World → World → Prop) (P : Program) (ops : Array Oper) (Q : Exit → Act → World → Prop) (n : Nat) (ds : List (Option Tmp)) (J : (Nat → Value) → World → Prop) (a : Act) (w : World) : Nat → List (MP R) → List Oper → Prop
  | _, prev, [] => ∀ x w', R w w' → phis prev x w' 0 → J x w' → wpList P ops Q (ops.toList.drop n) (frL ds 0 a x) w'
  | i, prev, o :: l => ∃ c : MP R, (∀ (x : Nat → Value) (w' : World), R w w' → J x w' → preds (phi prev) x w' o.after.toList → (∀ j, j < n → Region.waitsFor .any ops j i = true → x j = orig ds a j) →
      ∀ K : Act → World → Prop, (∀ v w'', c.p v w'' → J (upd x i v) w'' → R w' w'' → K ((frL ds 0 a x).put o.dst v) w'') → if Region.wanted o (yielded ops (frL ds 0 a x).tmps) = true then Oper.wp P o (frL ds 0 a x) w' K Q else K ((frL ds 0 a x).put o.dst undef) w')
    ∧ LS R P ops Q n ds J a w (i + 1) (prev ++ [c]) l
theorem phi_append (l r : List (MP R)) (k : Nat) (h : k < l.length) : phi (l ++ r) k = phi l k := by
  funext v w
  simp [phi, List.getElem?_append_left h]
theorem preds_congr {φ ψ : Nat → Value → World → Prop} {x : Nat → Value} {w : World} : ∀ (l : List Edge), (∀ e ∈ l, Region.binds .any e = true → φ e.on = ψ e.on) → preds φ x w l → preds ψ x w l
  | [], _, _ => trivial
  | e :: l, h, hp => ⟨fun hb => by rw [← h e (List.mem_cons_self ..) hb]; exact hp.1 hb, preds_congr l (fun e' he' => h e' (List.mem_cons_of_mem _ he')) hp.2⟩
theorem LS_sound {n : Nat} {ds : List (Option Tmp)} {J : (Nat → Value) → World → Prop} {a : Act} {w : World} : ∀ (rest : List Oper) (i : Nat) (prev : List (MP R)), prev.length = i →
    (∀ k o, rest[k]? = some o → ∀ e ∈ o.after.toList, Region.binds .any e = true → e.on < i + k) → LS R P ops Q n ds J a w i prev rest →
    ∃ more : List (MP R), more.length = rest.length ∧ LSteps R P ops Q (phi (prev ++ more)) n ds J a w i rest ∧ (∀ x w', R w w' → phis (prev ++ more) x w' 0 → J x w' → wpList P ops Q (ops.toList.drop n) (frL ds 0 a x) w')
  | [], i, prev, _, _, h => ⟨[], rfl, trivial, by rw [List.append_nil]; exact h⟩
  | o :: l, i, prev, hl, hb, ⟨c, h1, h2⟩ => by
    obtain ⟨more, hm, hs, hend⟩ := LS_sound l (i + 1) (prev ++ [c]) (by simp [hl]) (fun k o' ho' e he hbd => by
      have := hb (k + 1) o' (by simpa using ho') e he hbd
      omega) h2
    refine ⟨c :: more, by simp [hm], ⟨?_, by simpa using hs⟩, by simpa using hend⟩
    intro x w' hw hj hpre ho K hK
    refine h1 x w' hw hj (preds_congr _ (fun e he hbd => ?_) hpre) ho K (fun v w'' hv hvc hg => hK v w'' ?_ hvc hg)
    · have := hb 0 o (by simp) e he hbd
      exact phi_append _ _ _ (by omega)
    · simpa [phi, ← hl] using hv

theorem region_steps {id : Nat} {a : Act} {w : World} (n : Nat) (ds : List (Option Tmp)) (J : (Nat → Value) → World → Prop)
    (tr : ∀ a b c, R a b → R b c → R a c) (dr : ∀ w, R w { w with drawn := w.drawn + 1 }) (hJ0 : ∀ w', J (orig ds a) w') (hm : P.follows .mixedOrders = true) (hB : looseB ops n ds = true) (h : LS R P ops Q n ds J a w 0 [] (ops.toList.take n)) : (Code.region id ops true).wp P Q a w := by
  have hB' := hB
  simp only [looseB, Bool.and_eq_true, Bool.or_eq_true, decide_eq_true_eq] at hB'
  obtain ⟨⟨⟨⟨⟨hn, _⟩, _⟩, hback⟩, _⟩, _⟩ := hB'
  obtain ⟨more, hl, hs, hend⟩ := LS_sound (ops.toList.take n) 0 [] rfl (fun k o ho e he hbd => by
    have hk : k < n := by
      rcases Nat.lt_or_ge k n with h | h
      · exact h
      · rw [List.getElem?_eq_none (by simp; omega)] at ho; cases ho
    rw [List.getElem?_take_of_lt hk] at ho
    have hko : ops[k]? = some o := by simpa using ho
    have h4 := List.all_eq_true.1 hback k (List.mem_range.2 (Array.getElem?_eq_some_iff.1 hko).1)
    rw [hko] at h4
    simp only [Option.map_some, Option.getD_some] at h4
    have h2 := Array.all_eq_true_iff_forall_mem.1 h4 e (by simpa using he)
    simp only [hbd, Bool.not_true, Bool.false_or, decide_eq_true_eq] at h2
    omega) h
  exact region_loose n ds J more tr dr hJ0 hm hB (by simp [hl]; omega) (by simpa using hs) (by simpa using hend)

section
variable {n : Nat} {ds : List (Option Tmp)} {J : (Nat → Value) → World → Prop} {a : Act} {w : World} {i : Nat} {prev : List (MP R)} {o : Oper} {l : List Oper}
/-- Whatever the relation. -/
theorem ls_gen (c : MP R) (h : ∀ (x : Nat → Value) (w' : World), R w w' → J x w' → preds (phi prev) x w' o.after.toList →
      ∀ K : Act → World → Prop, (∀ v w'', c.p v w'' → J (upd x i v) w'' → R w' w'' → K ((frL ds 0 a x).put o.dst v) w'') → Held (if Region.wanted o (yielded ops (frL ds 0 a x).tmps) = true then Oper.wp P o (frL ds 0 a x) w' K Q else K ((frL ds 0 a x).put o.dst undef) w'))
    (hr : LS R P ops Q n ds J a w (i + 1) (prev ++ [c]) l) : LS R P ops Q n ds J a w i prev (o :: l) := ⟨c, fun x w' h1 hj h2 _ K hK => (h x w' h1 hj h2 K hK).out, hr⟩
/-- .. where it counts that a later operation has not been. -/
theorem ls_genO (c : MP R) (h : ∀ (x : Nat → Value) (w' : World), R w w' → J x w' → preds (phi prev) x w' o.after.toList → (∀ j, j < n → Region.waitsFor .any ops j i = true → x j = orig ds a j) →
      ∀ K : Act → World → Prop, (∀ v w'', c.p v w'' → J (upd x i v) w'' → R w' w'' → K ((frL ds 0 a x).put o.dst v) w'') → Held (if Region.wanted o (yielded ops (frL ds 0 a x).tmps) = true then Oper.wp P o (frL ds 0 a x) w' K Q else K ((frL ds 0 a x).put o.dst undef) w'))
    (hr : LS R P ops Q n ds J a w (i + 1) (prev ++ [c]) l) : LS R P ops Q n ds J a w i prev (o :: l) := ⟨c, fun x w' h1 hj h2 ho K hK => (h x w' h1 hj h2 ho K hK).out, hr⟩
/-- A value that is the same in every world. -/
theorem ls_val {v : Value} (h0 : ∀ x v w1 w2, J x w1 → R w1 w2 → J (upd x i v) w2) (h : ∀ (x : Nat → Value) (w' : World), R w w' → preds (phi prev) x w' o.after.toList →
      ∀ K : Act → World → Prop, (∀ w'', R w' w'' → K ((frL ds 0 a x).put o.dst v) w'') → Held (if Region.wanted o (yielded ops (frL ds 0 a x).tmps) = true then Oper.wp P o (frL ds 0 a x) w' K Q else K ((frL ds 0 a x).put o.dst undef) w'))
    (hr : LS R P ops Q n ds J a w (i + 1) (prev ++ [.val v]) l) : LS R P ops Q n ds J a w i prev (o :: l) :=
  ⟨.val v, fun x w' h1 hj h2 _ K hK => (h x w' h1 h2 K (fun w'' hg => hK v w'' rfl (h0 x v w' w'' hj hg) hg)).out, hr⟩
end
end
end Go.Proofs.Ytgdbbocfiejlfaa.RC
