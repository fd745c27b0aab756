/- Texts put together: Lo, LoR, LoC, LoJ, LoS. -/
import Derived.Test.YtfagfkfcokmclaaGreatDoorZMgA
import Derived.StillTail
import Derived.KernelRfl
/- A region that draws its order, its values told by relations: each operation of the head keeps all that was there and leaves a value of which a relation holds that later growth keeps; then whatever the order is, the relations hold of all slots when the tail comes up. -/
section
namespace Go.Proofs.YtfagfkfcokmclaaGreatDoor
open Go.RowKit

section
variable {P : Program} {ops : Array Oper} {Q : Exit → Act → World → Prop}

/-- The frame with these slots' values put in. -/
def frL : List (Option Tmp) → Nat → Act → (Nat → Value) → Act
  | [], _, a, _ => a
  | d :: l, i, a, x => frL l (i + 1) (a.put d (x i)) x
def upd (x : Nat → Value) (i : Nat) (v : Value) : Nat → Value := fun j => if j = i then v else x j
/-- No slot twice. -/
def apartB : List (Option Tmp) → Bool
  | [] => true
  | none :: l => apartB l
  | some d :: l => l.all (fun e => e != some d) && apartB l

theorem put_put (a : Act) (d : Option Tmp) (v u : Value) : (a.put d v).put d u = a.put d u := by
  cases d with
  | none => rfl
  | some d => simp [Act.put]
theorem put_self (a : Act) (d : Option Tmp) : a.put d ((d.map fun t => a.tmps.getD t undef).getD undef) = a := by
  cases d with
  | none => rfl
  | some d =>
    simp only [Act.put, Option.map_some, Option.getD_some]
    have : a.tmps.setIfInBounds d (a.tmps.getD d undef) = a.tmps := by
      apply Array.ext_getElem?
      intro k
      rw [Array.getElem?_setIfInBounds]
      by_cases h : d = k
      · subst h
        rw [if_pos rfl]
        by_cases h2 : d < a.tmps.size
        · simp [h2]
        · simp [h2]
      · rw [if_neg h]
    rw [this]
theorem frL_comm (d : Option Tmp) (v : Value) : ∀ (l : List (Option Tmp)) (i : Nat) (a : Act) (x : Nat → Value), (∀ e ∈ l, ∀ t, d = some t → e ≠ some t) → (frL l i a x).put d v = frL l i (a.put d v) x
  | [], _, _, _, _ => rfl
  | e :: l, i, a, x, h => by
    simp only [frL]
    rw [frL_comm d v l (i + 1) _ x (fun e' he' => h e' (List.mem_cons_of_mem _ he'))]
    congr 1
    exact (Act.put_comm a v (x i) (fun t ht => h e (List.mem_cons_self ..) t ht)).symm
theorem frL_upd_lt (v : Value) (k : Nat) : ∀ (l : List (Option Tmp)) (i : Nat) (a : Act) (x : Nat → Value), k < i → frL l i a (upd x k v) = frL l i a x
  | [], _, _, _, _ => rfl
  | e :: l, i, a, x, h => by
    simp only [frL]
    rw [frL_upd_lt v k l (i + 1) _ x (by omega)]
    congr 2
    simp [upd]; omega
theorem frL_put (v : Value) : ∀ (l : List (Option Tmp)) (i k : Nat) (a : Act) (x : Nat → Value), apartB l = true → k < l.length → (frL l i a x).put ((l[k]?).getD none) v = frL l i a (upd x (i + k) v)
  | [], _, _, _, _, _, h => by simp at h
  | e :: l, i, 0, a, x, hB, _ => by
    simp only [frL, List.getElem?_cons_zero, Option.getD_some, Nat.add_zero]
    rw [frL_upd_lt v i l (i + 1) _ x (by omega)]
    have hne : ∀ e' ∈ l, ∀ t, e = some t → e' ≠ some t := by
      intro e' he' t ht
      subst ht
      simp only [apartB, Bool.and_eq_true, List.all_eq_true] at hB
      simpa using hB.1 e' he'
    rw [frL_comm e v l (i + 1) _ x hne, put_put]
    congr 2
    simp [upd]
  | e :: l, i, k + 1, a, x, hB, hk => by
    have hB' : apartB l = true := by
      cases e with
      | none => simpa [apartB] using hB
      | some d => simp only [apartB, Bool.and_eq_true] at hB; exact hB.2
    simp only [frL, List.getElem?_cons_succ]
    rw [frL_put v l (i + 1) k _ x hB' (by simpa using hk)]
    have e1 : i + 1 + k = i + (k + 1) := by omega
    rw [e1]
    congr 2
    simp [upd]
/-- What the slots hold before the region. -/
def orig (ds : List (Option Tmp)) (a : Act) (i : Nat) : Value := ((((ds[i]?).getD none)).map fun t => a.tmps.getD t undef).getD undef
theorem frL_orig : ∀ (l : List (Option Tmp)) (i : Nat) (a : Act) (x : Nat → Value), (∀ k, k < l.length → x (i + k) = orig l a k) → apartB l = true → frL l i a x = a
  | [], _, _, _, _, _ => rfl
  | e :: l, i, a, x, h, hB => by
    have h0 : x i = orig (e :: l) a 0 := by simpa using h 0 (by simp)
    have e0 : a.put e (x i) = a := by rw [h0]; exact put_self a e
    simp only [frL, e0]
    have hB' : apartB l = true := by
      cases e with
      | none => simpa [apartB] using hB
      | some d => simp only [apartB, Bool.and_eq_true] at hB; exact hB.2
    refine frL_orig l (i + 1) a x (fun k hk => ?_) hB'
    have := h (k + 1) (by simpa using hk)
    rw [show i + 1 + k = i + (k + 1) by omega, this]
    rfl

def unl (listed : Array Bool) : Nat → Nat
  | 0 => 0
  | n + 1 => unl listed n + (if listed.getD n true = false then 1 else 0)
theorem unl_set_ge (listed : Array Bool) (i : Nat) : ∀ n, n ≤ i → unl (listed.setIfInBounds i true) n = unl listed n
  | 0, _ => rfl
  | n + 1, h => by
    simp only [unl]
    rw [unl_set_ge listed i n (by omega), getD_set_ne true (by omega)]
theorem unl_set (listed : Array Bool) (i : Nat) (hu : listed.getD i true = false) : ∀ n, i < n → unl (listed.setIfInBounds i true) n + 1 = unl listed n
  | 0, h => by omega
  | n + 1, h => by
    simp only [unl]
    by_cases hin : i = n
    · subst hin
      rw [unl_set_ge listed i i (Nat.le_refl _), if_pos hu]
      have hlt : i < listed.size := by
        rcases Nat.lt_or_ge i listed.size with h' | h'
        · exact h'
        · simp [Array.getElem?_eq_none h'] at hu
      have : (listed.setIfInBounds i true).getD i true = true := by simp [hlt]
      rw [if_neg (by rw [this]; simp)]
    · rw [getD_set_ne true hin]
      have := unl_set listed i hu n (by omega)
      omega
theorem unl_zero (listed : Array Bool) : ∀ n, unl listed n = 0 → ∀ i, i < n → listed.getD i true = true
  | 0, _, _, h => by omega
  | n + 1, h, i, hi => by
    simp only [unl] at h
    by_cases hin : i = n
    · subst hin
      cases hc : listed.getD i true with
      | true => rfl
      | false => rw [hc] at h; simp at h
    · exact unl_zero listed n (by omega) i (by omega)
theorem unl_least (listed : Array Bool) : ∀ n, unl listed n ≠ 0 → ∃ i, i < n ∧ listed.getD i true = false ∧ ∀ j, j < i → listed.getD j true = true
  | 0, h => by simp [unl] at h
  | n + 1, h => by
    by_cases h0 : unl listed n = 0
    · refine ⟨n, by omega, ?_, fun j hj => unl_zero listed n h0 j hj⟩
      simp only [unl, h0] at h
      cases hc : listed.getD n true with
      | true => rw [hc] at h; simp at h
      | false => rfl
    · obtain ⟨i, hi, h1, h2⟩ := unl_least listed n h0
      exact ⟨i, by omega, h1, h2⟩

theorem getD_rep (m i : Nat) (h : i < m) : (Array.replicate m false).getD i true = false := by simp [h]
/-- An operation waits for earlier ones alone. -/
def backB (ops : Array Oper) : Bool := (List.range ops.size).all fun i => ((ops[i]?).map fun o => o.after.all fun e => !Region.binds .any e || decide (e.on < i)).getD true
def headOf (n m : Nat) : Array Bool := ((List.range m).map fun i => decide (i < n)).toArray
def looseB (ops : Array Oper) (n : Nat) (ds : List (Option Tmp)) : Bool :=
  decide (n ≤ ops.size) && decide (ds = (ops.toList.take n).map (·.dst)) && apartB ds && backB ops && (decide (n = ops.size) || (Region.sinkB .any ops n && Region.chainB .any ops n)) && Region.seqB .any ops (ops.size - n) n (headOf n ops.size)

def preds (φ : Nat → Value → World → Prop) (x : Nat → Value) (w : World) : List Edge → Prop
  | [] => True
  | e :: l => (Region.binds .any e = true → φ e.on (x e.on) w) ∧ preds φ x w l
theorem preds_of {φ : Nat → Value → World → Prop} {x : Nat → Value} {w : World} : ∀ (l : List Edge), (∀ e ∈ l, Region.binds .any e = true → φ e.on (x e.on) w) → preds φ x w l
  | [], _ => trivial
  | e :: l, h => ⟨h e (List.mem_cons_self ..), preds_of l fun e' he' => h e' (List.mem_cons_of_mem _ he')⟩

/-- One operation's part. -/
def LStep (P : Program) (ops : Array Oper) (Q : Exit → Act → World → Prop) (φ : Nat → Value → World → Prop) (n : Nat) (ds : List (Option Tmp)) (a : Act) (w : World) (i : Nat) (o : Oper) : Prop :=
  ∀ (x : Nat → Value) (w' : World), Below w.heap.size w w' → preds φ x w' o.after.toList → (∀ j, j < n → Region.waitsFor .any ops j i = true → x j = orig ds a j) →
    ∀ K : Act → World → Prop, (∀ v w'', φ i v w'' → Below w'.heap.size w' w'' → K ((frL ds 0 a x).put o.dst v) w'') → if Region.wanted o (yielded ops (frL ds 0 a x).tmps) = true then Oper.wp P o (frL ds 0 a x) w' K Q else K ((frL ds 0 a x).put o.dst undef) w'
def LSteps (P : Program) (ops : Array Oper) (Q : Exit → Act → World → Prop) (φ : Nat → Value → World → Prop) (n : Nat) (ds : List (Option Tmp)) (a : Act) (w : World) : Nat → List Oper → Prop
  | _, [] => True
  | i, o :: l => LStep P ops Q φ n ds a w i o ∧ LSteps P ops Q φ n ds a w (i + 1) l
theorem LSteps_at {φ : Nat → Value → World → Prop} {n : Nat} {ds : List (Option Tmp)} {a : Act} {w : World} : ∀ (l : List Oper) (i k : Nat) (o : Oper), LSteps P ops Q φ n ds a w i l → l[k]? = some o → LStep P ops Q φ n ds a w (i + k) o
  | [], _, _, _, _, h => by simp at h
  | o' :: l, i, 0, o, hs, h => by simp at h; subst h; exact hs.1
  | o' :: l, i, k + 1, o, hs, h => by
    have := LSteps_at l (i + 1) k o hs.2 (by simpa using h)
    rwa [show i + 1 + k = i + (k + 1) by omega] at this

theorem listed_eq {n : Nat} {listed : Array Bool} (inv : HeadInv .any ops n listed) (h : ∀ i, i < n → listed.getD i true = true) : listed = headOf n ops.size := by
  apply Array.ext
  · simp [headOf, inv.size]
  · intro i h1 h2
    have hs := inv.size
    by_cases hi : i < n
    · have := h i hi
      simp [h1] at this
      simp [headOf, this, hi]
    · have := inv.tail i (by omega) (by omega)
      simp [h1] at this
      simp [headOf, this, hi]

theorem wp_region_loose {id : Nat} {a : Act} {w : World} (n : Nat) (ds : List (Option Tmp)) (φ : Nat → Value → World → Prop)
    (hm : P.follows .mixedOrders = true) (hB : looseB ops n ds = true)
    (hmono : ∀ i v w1 w2, φ i v w1 → Below w1.heap.size w1 w2 → φ i v w2)
    (hsteps : LSteps P ops Q φ n ds a w 0 (ops.toList.take n))
    (hend : ∀ x w', Below w.heap.size w w' → (∀ i, i < n → φ i (x i) w') → wpList P ops Q (ops.toList.drop n) (frL ds 0 a x) w') : (Code.region id ops true).wp P Q a w := by
  simp only [looseB, Bool.and_eq_true, Bool.or_eq_true, decide_eq_true_eq] at hB
  obtain ⟨⟨⟨⟨⟨hn, hds⟩, hap⟩, hback⟩, htail⟩, hseq⟩ := hB
  have hlen : ds.length = n := by rw [hds]; simp; omega
  have hdst : ∀ i o, i < n → ops[i]? = some o → (ds[i]?).getD none = o.dst := by
    intro i o hi ho
    rw [hds, List.getElem?_map, List.getElem?_take_of_lt hi]
    simp [ho]
  refine wp_region_any hm ?_
  have main : ∀ (f : Nat) (listed : Array Bool) (x : Nat → Value) (w' : World), HeadInv .any ops n listed → Below w.heap.size w w' →
      (∀ i, i < n → listed.getD i true = true → φ i (x i) w') → (∀ i, i < n → listed.getD i true = false → x i = orig ds a i) → unl listed n = f →
      wpAny P .any ops Q (f + (ops.size - n)) listed (frL ds 0 a x) w' := by
    intro f
    induction f with
    | zero =>
      intro listed x w' inv hb hφ ho hu
      have hall := unl_zero listed n hu
      rw [listed_eq inv hall, Nat.zero_add]
      have hl : (ops.toList.drop n).length = ops.size - n := by simp
      rw [← hl]
      refine wpAny_of_seq (ops.toList.drop n) n _ _ _ (fun j => by simp) (by rw [hl]; exact hseq) (hend x w' hb (fun i hi => hφ i hi (hall i hi)))
    | succ f ih =>
      intro listed x w' inv hb hφ ho hu
      rw [show f + 1 + (ops.size - n) = (f + (ops.size - n)) + 1 by omega]
      obtain ⟨k, hk, hku, hkl⟩ := unl_least listed n (by omega)
      have hsz := inv.size
      have hkr : k ∈ Region.ready .any ops listed := by
        rw [mem_ready]
        have hok : ∃ o, ops[k]? = some o := ⟨ops[k]'(by omega), by simp⟩
        obtain ⟨o, hok⟩ := hok
        refine ⟨hku, o, hok, fun e he hbd => ?_⟩
        have h1 := List.all_eq_true.1 hback k (List.mem_range.2 (by omega))
        rw [hok] at h1
        simp only [Option.map_some, Option.getD_some] at h1
        have h2 := Array.all_eq_true_iff_forall_mem.1 h1 e he
        simp only [hbd, Bool.not_true, Bool.false_or, decide_eq_true_eq] at h2
        have h3 := hkl e.on h2
        have hlt : e.on < listed.size := by omega
        simp [hlt] at h3 ⊢
        exact h3
      refine ⟨fun h => (by rw [h] at hkr; cases hkr), fun i hi => ?_⟩
      obtain ⟨hun, o, hoi, hall⟩ := mem_ready.1 hi
      have hilt : i < ops.size := (Array.getElem?_eq_some_iff.1 hoi).1
      have hin : i < n := by
        rcases htail with htail | ⟨hs, hc⟩
        · omega
        · rcases Nat.lt_or_ge i n with h | h
          · exact h
          · exact absurd hi (tail_waits hs hc (by omega) inv _ k rfl hk hku i h)
      have hst := LSteps_at (ops.toList.take n) 0 i o hsteps (by rw [List.getElem?_take_of_lt hin]; simpa using hoi)
      rw [Nat.zero_add] at hst
      have hpre : preds φ x w' o.after.toList := preds_of _ fun e he hbd => by
        have he' : e ∈ o.after := by simpa using he
        have h1 := hall e he' hbd
        have h4 := List.all_eq_true.1 hback i (List.mem_range.2 hilt)
        rw [hoi] at h4
        simp only [Option.map_some, Option.getD_some] at h4
        have h2 := Array.all_eq_true_iff_forall_mem.1 h4 e he'
        simp only [hbd, Bool.not_true, Bool.false_or, decide_eq_true_eq] at h2
        refine hφ e.on (by omega) ?_
        have hlt : e.on < listed.size := by omega
        simp [hlt] at h1 ⊢
        exact h1
      have hor : ∀ j, j < n → Region.waitsFor .any ops j i = true → x j = orig ds a j := fun j hj hw => by
        refine ho j hj ?_
        obtain ⟨oj, hoj, e, he, hbd, hon⟩ := Region.waitsFor_spec hw
        cases hl : listed.getD j true with
        | false => rfl
        | true =>
          have hlt : j < listed.size := by omega
          have hl' : listed.getD j false = true := by simp [hlt] at hl ⊢; exact hl
          have h5 := inv.closed j oj hoj hl' e he hbd
          rw [hon, getD_both hun] at h5
          cases h5
      have hstep := hst x w' hb hpre hor (wpAny P .any ops Q (f + (ops.size - n)) (listed.setIfInBounds i true)) (fun v w'' hv hg => by
        rw [← hdst i o hin hoi, frL_put v ds 0 i a x hap (by omega), Nat.zero_add]
        refine ih (listed.setIfInBounds i true) (upd x i v) w'' (inv.set hi hin) (hb.trans (hg.mono hb.size)) ?_ ?_ ?_
        · intro j hj hjl
          by_cases hji : j = i
          · subst hji; simpa [upd] using hv
          · rw [getD_set_ne true (Ne.symm hji)] at hjl
            simpa [upd, hji] using hmono j _ _ _ (hφ j hj hjl) hg
        · intro j hj hjl
          have hji : j ≠ i := by
            intro h; subst h
            have hlt : j < listed.size := by omega
            simp [hlt] at hjl
          rw [getD_set_ne true (Ne.symm hji)] at hjl
          simpa [upd, hji] using ho j hj hjl
        · have := unl_set listed i hun n hin
          omega)
      unfold wpOp
      simp only [hoi]
      split at hstep
      · rename_i hwt
        rw [if_pos hwt]
        exact .inl hstep
      · rename_i hwt
        rw [if_neg hwt]
        exact hstep
  have h0 := main n (Array.replicate ops.size false) (orig ds a) { w with drawn := w.drawn + 1 } ⟨by simp, (fun j oj hj hl => by rw [getD_replicate_false] at hl; cases hl), (fun t ht ht' => getD_rep _ _ ht')⟩ (Below.refl _ _).drew
    (fun i hi hl => by rw [getD_rep _ _ (by omega)] at hl; cases hl) (fun _ _ _ => rfl) ?_
  · rw [frL_orig ds 0 a (orig ds a) (fun k hk => by simp) hap] at h0
    rwa [show n + (ops.size - n) = ops.size by omega] at h0
  · have hc : ∀ m, m ≤ ops.size → unl (Array.replicate ops.size false) m = m := by
      intro m
      induction m with
      | zero => intro _; rfl
      | succ m ih =>
        intro hm'
        simp only [unl]
        rw [ih (by omega), if_pos (getD_rep _ _ (by omega))]
    exact hc n hn

/-- A relation between a slot's value and the world that later growth keeps. -/
structure MP where
  p : Value → World → Prop
  m : ∀ v w w', p v w → Below w.heap.size w w' → p v w'
def MP.any : MP := ⟨fun _ _ => True, fun _ _ _ _ _ => trivial⟩
/-- This value. -/
def MP.val (u : Value) : MP := ⟨fun v _ => v = u, fun _ _ _ h _ => h⟩
/-- A pointer to a block, from 'base' on, of these cells. -/
def MP.box (base : Nat) (cs : Array Value) (t : TypeId) : MP :=
  ⟨fun v w => ∃ q, v = .pointer (some ⟨q, 0, none⟩) ∧ base ≤ q ∧ Blk w q cs t, fun _ _ _ ⟨q, h1, h2, h3⟩ hb => ⟨q, h1, h2, h3.below hb h3.lt⟩⟩
/-- A slice over a block, from 'base' on, of these cells. -/
def MP.row (base : Nat) (n : Nat) (cs : Array Value) (t : TypeId) : MP :=
  ⟨fun v w => ∃ q, v = .slice (some ⟨q, 0, none⟩) n n ∧ base ≤ q ∧ Blk w q cs t, fun _ _ _ ⟨q, h1, h2, h3⟩ hb => ⟨q, h1, h2, h3.below hb h3.lt⟩⟩
def phi (l : List MP) (i : Nat) (v : Value) (w : World) : Prop := ((l[i]?).getD MP.any).p v w
def phis (l : List MP) (x : Nat → Value) (w : World) : Nat → Prop
  | i => match l with
    | [] => True
    | c :: r => c.p (x i) w ∧ phis r x w (i + 1)
theorem phis_of (x : Nat → Value) (w : World) : ∀ (l : List MP) (i : Nat), (∀ k, k < l.length → ((l[k]?).getD MP.any).p (x (i + k)) w) → phis l x w i
  | [], _, _ => trivial
  | c :: r, i, h => ⟨by simpa using h 0 (by simp), phis_of x w r (i + 1) fun k hk => by
      have := h (k + 1) (by simpa using hk)
      rw [show i + 1 + k = i + (k + 1) by omega]
      simpa using this⟩

theorem region_loose {id : Nat} {a : Act} {w : World} (n : Nat) (ds : List (Option Tmp)) (l : List MP)
    (hm : P.follows .mixedOrders = true) (hB : looseB ops n ds = true) (hl : l.length = n)
    (hsteps : LSteps P ops Q (phi l) n ds a w 0 (ops.toList.take n))
    (hend : ∀ x w', Below w.heap.size w w' → phis l x w' 0 → wpList P ops Q (ops.toList.drop n) (frL ds 0 a x) w') : (Code.region id ops true).wp P Q a w :=
  wp_region_loose n ds (phi l) hm hB (fun i v w1 w2 h hb => (((l[i]?).getD MP.any).m v w1 w2 h hb)) hsteps
    (fun x w' hb h => hend x w' hb (phis_of x w' l 0 (fun k hk => by rw [Nat.zero_add]; exact h k (by omega))))

/-- THE STEPS, IN THE TEXT's ORDER, each with the relation that it leaves; behind them the tail. -/
def LS (P : Program) (ops : Array Oper) (Q : Exit → Act → World → Prop) (n : Nat) (ds : List (Option Tmp)) (a : Act) (w : World) : Nat → List MP → List Oper → Prop
  | _, prev, [] => ∀ x w', Below w.heap.size w w' → phis prev x w' 0 → wpList P ops Q (ops.toList.drop n) (frL ds 0 a x) w'
  | i, prev, o :: l => ∃ c : MP, (∀ (x : Nat → Value) (w' : World), Below w.heap.size w w' → preds (phi prev) x w' o.after.toList → (∀ j, j < n → Region.waitsFor .any ops j i = true → x j = orig ds a j) →
      ∀ K : Act → World → Prop, (∀ v w'', c.p v w'' → Below w'.heap.size w' w'' → K ((frL ds 0 a x).put o.dst v) w'') → if Region.wanted o (yielded ops (frL ds 0 a x).tmps) = true then Oper.wp P o (frL ds 0 a x) w' K Q else K ((frL ds 0 a x).put o.dst undef) w')
    ∧ LS P ops Q n ds a w (i + 1) (prev ++ [c]) l
theorem phi_append (l r : List MP) (k : Nat) (h : k < l.length) : phi (l ++ r) k = phi l k := by
  funext v w
  simp [phi, List.getElem?_append_left h]
theorem preds_congr {φ ψ : Nat → Value → World → Prop} {x : Nat → Value} {w : World} : ∀ (l : List Edge), (∀ e ∈ l, Region.binds .any e = true → φ e.on = ψ e.on) → preds φ x w l → preds ψ x w l
  | [], _, _ => trivial
  | e :: l, h, hp => ⟨fun hb => by rw [← h e (List.mem_cons_self ..) hb]; exact hp.1 hb, preds_congr l (fun e' he' => h e' (List.mem_cons_of_mem _ he')) hp.2⟩
theorem LS_sound {n : Nat} {ds : List (Option Tmp)} {a : Act} {w : World} : ∀ (rest : List Oper) (i : Nat) (prev : List MP), prev.length = i →
    (∀ k o, rest[k]? = some o → ∀ e ∈ o.after.toList, Region.binds .any e = true → e.on < i + k) → LS P ops Q n ds a w i prev rest →
    ∃ more : List MP, more.length = rest.length ∧ LSteps P ops Q (phi (prev ++ more)) n ds a w i rest ∧ (∀ x w', Below w.heap.size w w' → phis (prev ++ more) x w' 0 → wpList P ops Q (ops.toList.drop n) (frL ds 0 a x) w')
  | [], i, prev, _, _, h => ⟨[], rfl, trivial, by rw [List.append_nil]; exact h⟩
  | o :: l, i, prev, hl, hb, ⟨c, h1, h2⟩ => by
    obtain ⟨more, hm, hs, hend⟩ := LS_sound l (i + 1) (prev ++ [c]) (by simp [hl]) (fun k o' ho' e he hbd => by
      have := hb (k + 1) o' (by simpa using ho') e he hbd
      omega) h2
    refine ⟨c :: more, by simp [hm], ⟨?_, by simpa using hs⟩, by simpa using hend⟩
    intro x w' hw hpre ho K hK
    refine h1 x w' hw (preds_congr _ (fun e he hbd => ?_) hpre) ho K (fun v w'' hv hg => hK v w'' ?_ hg)
    · have := hb 0 o (by simp) e he hbd
      exact phi_append _ _ _ (by omega)
    · simpa [phi, ← hl] using hv

theorem region_steps {id : Nat} {a : Act} {w : World} (n : Nat) (ds : List (Option Tmp))
    (hm : P.follows .mixedOrders = true) (hB : looseB ops n ds = true) (h : LS P ops Q n ds a w 0 [] (ops.toList.take n)) : (Code.region id ops true).wp P Q a w := by
  have hB' := hB
  simp only [looseB, Bool.and_eq_true, Bool.or_eq_true, decide_eq_true_eq] at hB'
  obtain ⟨⟨⟨⟨⟨hn, _⟩, _⟩, hback⟩, _⟩, _⟩ := hB'
  obtain ⟨more, hl, hs, hend⟩ := LS_sound (ops.toList.take n) 0 [] rfl (fun k o ho e he hbd => by
    have hk : k < n := by
      rcases Nat.lt_or_ge k n with h | h
      · exact h
      · rw [List.getElem?_eq_none (by simp; omega)] at ho; cases ho
    rw [List.getElem?_take_of_lt hk] at ho
    have hko : ops[k]? = some o := by simpa using ho
    have h4 := List.all_eq_true.1 hback k (List.mem_range.2 (Array.getElem?_eq_some_iff.1 hko).1)
    rw [hko] at h4
    simp only [Option.map_some, Option.getD_some] at h4
    have h2 := Array.all_eq_true_iff_forall_mem.1 h4 e (by simpa using he)
    simp only [hbd, Bool.not_true, Bool.false_or, decide_eq_true_eq] at h2
    omega) h
  exact region_loose n ds more hm hB (by simp [hl]; omega) (by simpa using hs) (by simpa using hend)

/-- A goal that no tactic lays open before its time. -/
structure Held (p : Prop) : Prop where
  out : p
section
variable {n : Nat} {ds : List (Option Tmp)} {a : Act} {w : World} {i : Nat} {prev : List MP} {o : Oper} {l : List Oper}
/-- Whatever the relation. -/
theorem ls_gen (c : MP) (h : ∀ (x : Nat → Value) (w' : World), Below w.heap.size w w' → preds (phi prev) x w' o.after.toList →
      ∀ K : Act → World → Prop, (∀ v w'', c.p v w'' → Below w'.heap.size w' w'' → K ((frL ds 0 a x).put o.dst v) w'') → Held (if Region.wanted o (yielded ops (frL ds 0 a x).tmps) = true then Oper.wp P o (frL ds 0 a x) w' K Q else K ((frL ds 0 a x).put o.dst undef) w'))
    (hr : LS P ops Q n ds a w (i + 1) (prev ++ [c]) l) : LS P ops Q n ds a w i prev (o :: l) := ⟨c, fun x w' h1 h2 _ K hK => (h x w' h1 h2 K hK).out, hr⟩
/-- A value that is the same in every world. -/
theorem ls_val {v : Value} (h : ∀ (x : Nat → Value) (w' : World), Below w.heap.size w w' → preds (phi prev) x w' o.after.toList →
      ∀ K : Act → World → Prop, (∀ w'', Below w'.heap.size w' w'' → K ((frL ds 0 a x).put o.dst v) w'') → Held (if Region.wanted o (yielded ops (frL ds 0 a x).tmps) = true then Oper.wp P o (frL ds 0 a x) w' K Q else K ((frL ds 0 a x).put o.dst undef) w'))
    (hr : LS P ops Q n ds a w (i + 1) (prev ++ [.val v]) l) : LS P ops Q n ds a w i prev (o :: l) :=
  ⟨.val v, fun x w' h1 h2 _ K hK => (h x w' h1 h2 K (fun w'' hg => hK v w'' rfl hg)).out, hr⟩
/-- .. where a slot is read that a later operation of the region writes. -/
theorem ls_old {v : Value} (h : ∀ (x : Nat → Value) (w' : World), Below w.heap.size w w' → preds (phi prev) x w' o.after.toList → (∀ j, j < n → Region.waitsFor .any ops j i = true → x j = orig ds a j) →
      ∀ K : Act → World → Prop, (∀ w'', Below w'.heap.size w' w'' → K ((frL ds 0 a x).put o.dst v) w'') → Held (if Region.wanted o (yielded ops (frL ds 0 a x).tmps) = true then Oper.wp P o (frL ds 0 a x) w' K Q else K ((frL ds 0 a x).put o.dst undef) w'))
    (hr : LS P ops Q n ds a w (i + 1) (prev ++ [.val v]) l) : LS P ops Q n ds a w i prev (o :: l) :=
  ⟨.val v, fun x w' h1 h2 h3 K hK => (h x w' h1 h2 h3 K (fun w'' hg => hK v w'' rfl hg)).out, hr⟩
end
end
end Go.Proofs.YtfagfkfcokmclaaGreatDoor
end

/- A region that draws its order, its values told by relations, its worlds by a relation of one's own: the text 'Lo' once more, any relation in the place of 'what was there stays'. -/
section
namespace Go.Proofs.YtfagfkfcokmclaaGreatDoor.RR
open Go.RowKit

section
variable {R : World → World → Prop} {P : Program} {ops : Array Oper} {Q : Exit → Act → World → Prop}

/-- One operation's part. -/
def LStep (R : World → World → Prop) (P : Program) (ops : Array Oper) (Q : Exit → Act → World → Prop) (φ : Nat → Value → World → Prop) (n : Nat) (ds : List (Option Tmp)) (a : Act) (w : World) (i : Nat) (o : Oper) : Prop :=
  ∀ (x : Nat → Value) (w' : World), R w w' → preds φ x w' o.after.toList → (∀ j, j < n → Region.waitsFor .any ops j i = true → x j = orig ds a j) →
    ∀ K : Act → World → Prop, (∀ v w'', φ i v w'' → R w' w'' → K ((frL ds 0 a x).put o.dst v) w'') → if Region.wanted o (yielded ops (frL ds 0 a x).tmps) = true then Oper.wp P o (frL ds 0 a x) w' K Q else K ((frL ds 0 a x).put o.dst undef) w'
def LSteps (R : World → World → Prop) (P : Program) (ops : Array Oper) (Q : Exit → Act → World → Prop) (φ : Nat → Value → World → Prop) (n : Nat) (ds : List (Option Tmp)) (a : Act) (w : World) : Nat → List Oper → Prop
  | _, [] => True
  | i, o :: l => LStep R P ops Q φ n ds a w i o ∧ LSteps R P ops Q φ n ds a w (i + 1) l
theorem LSteps_at {φ : Nat → Value → World → Prop} {n : Nat} {ds : List (Option Tmp)} {a : Act} {w : World} : ∀ (l : List Oper) (i k : Nat) (o : Oper), LSteps R P ops Q φ n ds a w i l → l[k]? = some o → LStep R P ops Q φ n ds a w (i + k) o
  | [], _, _, _, _, h => by simp at h
  | o' :: l, i, 0, o, hs, h => by simp at h; subst h; exact hs.1
  | o' :: l, i, k + 1, o, hs, h => by
    have := LSteps_at l (i + 1) k o hs.2 (by simpa using h)
    rwa [show i + 1 + k = i + (k + 1) by omega] at this

theorem wp_region_loose {id : Nat} {a : Act} {w : World} (n : Nat) (ds : List (Option Tmp)) (φ : Nat → Value → World → Prop)
    (tr : ∀ a b c, R a b → R b c → R a c) (dr : ∀ w, R w { w with drawn := w.drawn + 1 }) (hm : P.follows .mixedOrders = true) (hB : looseB ops n ds = true)
    (hmono : ∀ i v w1 w2, φ i v w1 → R w1 w2 → φ i v w2)
    (hsteps : LSteps R P ops Q φ n ds a w 0 (ops.toList.take n))
    (hend : ∀ x w', R w w' → (∀ i, i < n → φ i (x i) w') → wpList P ops Q (ops.toList.drop n) (frL ds 0 a x) w') : (Code.region id ops true).wp P Q a w := by
  simp only [looseB, Bool.and_eq_true, Bool.or_eq_true, decide_eq_true_eq] at hB
  obtain ⟨⟨⟨⟨⟨hn, hds⟩, hap⟩, hback⟩, htail⟩, hseq⟩ := hB
  have hlen : ds.length = n := by rw [hds]; simp; omega
  have hdst : ∀ i o, i < n → ops[i]? = some o → (ds[i]?).getD none = o.dst := by
    intro i o hi ho
    rw [hds, List.getElem?_map, List.getElem?_take_of_lt hi]
    simp [ho]
  refine wp_region_any hm ?_
  have main : ∀ (f : Nat) (listed : Array Bool) (x : Nat → Value) (w' : World), HeadInv .any ops n listed → R w w' →
      (∀ i, i < n → listed.getD i true = true → φ i (x i) w') → (∀ i, i < n → listed.getD i true = false → x i = orig ds a i) → unl listed n = f →
      wpAny P .any ops Q (f + (ops.size - n)) listed (frL ds 0 a x) w' := by
    intro f
    induction f with
    | zero =>
      intro listed x w' inv hb hφ ho hu
      have hall := unl_zero listed n hu
      rw [listed_eq inv hall, Nat.zero_add]
      have hl : (ops.toList.drop n).length = ops.size - n := by simp
      rw [← hl]
      refine wpAny_of_seq (ops.toList.drop n) n _ _ _ (fun j => by simp) (by rw [hl]; exact hseq) (hend x w' hb (fun i hi => hφ i hi (hall i hi)))
    | succ f ih =>
      intro listed x w' inv hb hφ ho hu
      rw [show f + 1 + (ops.size - n) = (f + (ops.size - n)) + 1 by omega]
      obtain ⟨k, hk, hku, hkl⟩ := unl_least listed n (by omega)
      have hsz := inv.size
      have hkr : k ∈ Region.ready .any ops listed := by
        rw [mem_ready]
        have hok : ∃ o, ops[k]? = some o := ⟨ops[k]'(by omega), by simp⟩
        obtain ⟨o, hok⟩ := hok
        refine ⟨hku, o, hok, fun e he hbd => ?_⟩
        have h1 := List.all_eq_true.1 hback k (List.mem_range.2 (by omega))
        rw [hok] at h1
        simp only [Option.map_some, Option.getD_some] at h1
        have h2 := Array.all_eq_true_iff_forall_mem.1 h1 e he
        simp only [hbd, Bool.not_true, Bool.false_or, decide_eq_true_eq] at h2
        have h3 := hkl e.on h2
        have hlt : e.on < listed.size := by omega
        simp [hlt] at h3 ⊢
        exact h3
      refine ⟨fun h => (by rw [h] at hkr; cases hkr), fun i hi => ?_⟩
      obtain ⟨hun, o, hoi, hall⟩ := mem_ready.1 hi
      have hilt : i < ops.size := (Array.getElem?_eq_some_iff.1 hoi).1
      have hin : i < n := by
        rcases htail with htail | ⟨hs, hc⟩
        · omega
        · rcases Nat.lt_or_ge i n with h | h
          · exact h
          · exact absurd hi (tail_waits hs hc (by omega) inv _ k rfl hk hku i h)
      have hst := LSteps_at (ops.toList.take n) 0 i o hsteps (by rw [List.getElem?_take_of_lt hin]; simpa using hoi)
      rw [Nat.zero_add] at hst
      have hpre : preds φ x w' o.after.toList := preds_of _ fun e he hbd => by
        have he' : e ∈ o.after := by simpa using he
        have h1 := hall e he' hbd
        have h4 := List.all_eq_true.1 hback i (List.mem_range.2 hilt)
        rw [hoi] at h4
        simp only [Option.map_some, Option.getD_some] at h4
        have h2 := Array.all_eq_true_iff_forall_mem.1 h4 e he'
        simp only [hbd, Bool.not_true, Bool.false_or, decide_eq_true_eq] at h2
        refine hφ e.on (by omega) ?_
        have hlt : e.on < listed.size := by omega
        simp [hlt] at h1 ⊢
        exact h1
      have hor : ∀ j, j < n → Region.waitsFor .any ops j i = true → x j = orig ds a j := fun j hj hw => by
        refine ho j hj ?_
        obtain ⟨oj, hoj, e, he, hbd, hon⟩ := Region.waitsFor_spec hw
        cases hl : listed.getD j true with
        | false => rfl
        | true =>
          have hlt : j < listed.size := by omega
          have hl' : listed.getD j false = true := by simp [hlt] at hl ⊢; exact hl
          have h5 := inv.closed j oj hoj hl' e he hbd
          rw [hon, getD_both hun] at h5
          cases h5
      have hstep := hst x w' hb hpre hor (wpAny P .any ops Q (f + (ops.size - n)) (listed.setIfInBounds i true)) (fun v w'' hv hg => by
        rw [← hdst i o hin hoi, frL_put v ds 0 i a x hap (by omega), Nat.zero_add]
        refine ih (listed.setIfInBounds i true) (upd x i v) w'' (inv.set hi hin) (tr _ _ _ hb hg) ?_ ?_ ?_
        · intro j hj hjl
          by_cases hji : j = i
          · subst hji; simpa [upd] using hv
          · rw [getD_set_ne true (Ne.symm hji)] at hjl
            simpa [upd, hji] using hmono j _ _ _ (hφ j hj hjl) hg
        · intro j hj hjl
          have hji : j ≠ i := by
            intro h; subst h
            have hlt : j < listed.size := by omega
            simp [hlt] at hjl
          rw [getD_set_ne true (Ne.symm hji)] at hjl
          simpa [upd, hji] using ho j hj hjl
        · have := unl_set listed i hun n hin
          omega)
      unfold wpOp
      simp only [hoi]
      split at hstep
      · rename_i hwt
        rw [if_pos hwt]
        exact .inl hstep
      · rename_i hwt
        rw [if_neg hwt]
        exact hstep
  have h0 := main n (Array.replicate ops.size false) (orig ds a) { w with drawn := w.drawn + 1 } ⟨by simp, (fun j oj hj hl => by rw [getD_replicate_false] at hl; cases hl), (fun t ht ht' => getD_rep _ _ ht')⟩ (dr w)
    (fun i hi hl => by rw [getD_rep _ _ (by omega)] at hl; cases hl) (fun _ _ _ => rfl) ?_
  · rw [frL_orig ds 0 a (orig ds a) (fun k hk => by simp) hap] at h0
    rwa [show n + (ops.size - n) = ops.size by omega] at h0
  · have hc : ∀ m, m ≤ ops.size → unl (Array.replicate ops.size false) m = m := by
      intro m
      induction m with
      | zero => intro _; rfl
      | succ m ih =>
        intro hm'
        simp only [unl]
        rw [ih (by omega), if_pos (getD_rep _ _ (by omega))]
    exact hc n hn

/-- A relation between a slot's value and the world that later growth keeps. -/
structure MP (R : World → World → Prop) where
  p : Value → World → Prop
  m : ∀ v w w', p v w → R w w' → p v w'
def MP.any : MP R := ⟨fun _ _ => True, fun _ _ _ _ _ => trivial⟩
/-- This value. -/
def MP.val (u : Value) : MP R := ⟨fun v _ => v = u, fun _ _ _ h _ => h⟩
def phi (l : List (MP R)) (i : Nat) (v : Value) (w : World) : Prop := ((l[i]?).getD MP.any).p v w
def phis (l : List (MP R)) (x : Nat → Value) (w : World) : Nat → Prop
  | i => match l with
    | [] => True
    | c :: r => c.p (x i) w ∧ phis r x w (i + 1)
theorem phis_of (x : Nat → Value) (w : World) : ∀ (l : List (MP R)) (i : Nat), (∀ k, k < l.length → ((l[k]?).getD MP.any).p (x (i + k)) w) → phis l x w i
  | [], _, _ => trivial
  | c :: r, i, h => ⟨by simpa using h 0 (by simp), phis_of x w r (i + 1) fun k hk => by
      have := h (k + 1) (by simpa using hk)
      rw [show i + 1 + k = i + (k + 1) by omega]
      simpa using this⟩

theorem region_loose {id : Nat} {a : Act} {w : World} (n : Nat) (ds : List (Option Tmp)) (l : List (MP R))
    (tr : ∀ a b c, R a b → R b c → R a c) (dr : ∀ w, R w { w with drawn := w.drawn + 1 }) (hm : P.follows .mixedOrders = true) (hB : looseB ops n ds = true) (hl : l.length = n)
    (hsteps : LSteps R P ops Q (phi l) n ds a w 0 (ops.toList.take n))
    (hend : ∀ x w', R w w' → phis l x w' 0 → wpList P ops Q (ops.toList.drop n) (frL ds 0 a x) w') : (Code.region id ops true).wp P Q a w :=
  wp_region_loose n ds (phi l) tr dr hm hB (fun i v w1 w2 h hb => (((l[i]?).getD MP.any).m v w1 w2 h hb)) hsteps
    (fun x w' hb h => hend x w' hb (phis_of x w' l 0 (fun k hk => by rw [Nat.zero_add]; exact h k (by omega))))

/-- THE STEPS, IN THE TEXT's ORDER, each with the relation that it leaves; behind them the tail. -/
def LS (R : World → World → Prop) (P : Program) (ops : Array Oper) (Q : Exit → Act → World → Prop) (n : Nat) (ds : List (Option Tmp)) (a : Act) (w : World) : Nat → List (MP R) → List Oper → Prop
  | _, prev, [] => ∀ x w', R w w' → phis prev x w' 0 → wpList P ops Q (ops.toList.drop n) (frL ds 0 a x) w'
  | i, prev, o :: l => ∃ c : MP R, (∀ (x : Nat → Value) (w' : World), R w w' → preds (phi prev) x w' o.after.toList → (∀ j, j < n → Region.waitsFor .any ops j i = true → x j = orig ds a j) →
      ∀ K : Act → World → Prop, (∀ v w'', c.p v w'' → R w' w'' → K ((frL ds 0 a x).put o.dst v) w'') → if Region.wanted o (yielded ops (frL ds 0 a x).tmps) = true then Oper.wp P o (frL ds 0 a x) w' K Q else K ((frL ds 0 a x).put o.dst undef) w')
    ∧ LS R P ops Q n ds a w (i + 1) (prev ++ [c]) l
theorem phi_append (l r : List (MP R)) (k : Nat) (h : k < l.length) : phi (l ++ r) k = phi l k := by
  funext v w
  simp [phi, List.getElem?_append_left h]
theorem preds_congr {φ ψ : Nat → Value → World → Prop} {x : Nat → Value} {w : World} : ∀ (l : List Edge), (∀ e ∈ l, Region.binds .any e = true → φ e.on = ψ e.on) → preds φ x w l → preds ψ x w l
  | [], _, _ => trivial
  | e :: l, h, hp => ⟨fun hb => by rw [← h e (List.mem_cons_self ..) hb]; exact hp.1 hb, preds_congr l (fun e' he' => h e' (List.mem_cons_of_mem _ he')) hp.2⟩
theorem LS_sound {n : Nat} {ds : List (Option Tmp)} {a : Act} {w : World} : ∀ (rest : List Oper) (i : Nat) (prev : List (MP R)), prev.length = i →
    (∀ k o, rest[k]? = some o → ∀ e ∈ o.after.toList, Region.binds .any e = true → e.on < i + k) → LS R P ops Q n ds a w i prev rest →
    ∃ more : List (MP R), more.length = rest.length ∧ LSteps R P ops Q (phi (prev ++ more)) n ds a w i rest ∧ (∀ x w', R w w' → phis (prev ++ more) x w' 0 → wpList P ops Q (ops.toList.drop n) (frL ds 0 a x) w')
  | [], i, prev, _, _, h => ⟨[], rfl, trivial, by rw [List.append_nil]; exact h⟩
  | o :: l, i, prev, hl, hb, ⟨c, h1, h2⟩ => by
    obtain ⟨more, hm, hs, hend⟩ := LS_sound l (i + 1) (prev ++ [c]) (by simp [hl]) (fun k o' ho' e he hbd => by
      have := hb (k + 1) o' (by simpa using ho') e he hbd
      omega) h2
    refine ⟨c :: more, by simp [hm], ⟨?_, by simpa using hs⟩, by simpa using hend⟩
    intro x w' hw hpre ho K hK
    refine h1 x w' hw (preds_congr _ (fun e he hbd => ?_) hpre) ho K (fun v w'' hv hg => hK v w'' ?_ hg)
    · have := hb 0 o (by simp) e he hbd
      exact phi_append _ _ _ (by omega)
    · simpa [phi, ← hl] using hv

theorem region_steps {id : Nat} {a : Act} {w : World} (n : Nat) (ds : List (Option Tmp))
    (tr : ∀ a b c, R a b → R b c → R a c) (dr : ∀ w, R w { w with drawn := w.drawn + 1 }) (hm : P.follows .mixedOrders = true) (hB : looseB ops n ds = true) (h : LS R P ops Q n ds a w 0 [] (ops.toList.take n)) : (Code.region id ops true).wp P Q a w := by
  have hB' := hB
  simp only [looseB, Bool.and_eq_true, Bool.or_eq_true, decide_eq_true_eq] at hB'
  obtain ⟨⟨⟨⟨⟨hn, _⟩, _⟩, hback⟩, _⟩, _⟩ := hB'
  obtain ⟨more, hl, hs, hend⟩ := LS_sound (ops.toList.take n) 0 [] rfl (fun k o ho e he hbd => by
    have hk : k < n := by
      rcases Nat.lt_or_ge k n with h | h
      · exact h
      · rw [List.getElem?_eq_none (by simp; omega)] at ho; cases ho
    rw [List.getElem?_take_of_lt hk] at ho
    have hko : ops[k]? = some o := by simpa using ho
    have h4 := List.all_eq_true.1 hback k (List.mem_range.2 (Array.getElem?_eq_some_iff.1 hko).1)
    rw [hko] at h4
    simp only [Option.map_some, Option.getD_some] at h4
    have h2 := Array.all_eq_true_iff_forall_mem.1 h4 e (by simpa using he)
    simp only [hbd, Bool.not_true, Bool.false_or, decide_eq_true_eq] at h2
    omega) h
  exact region_loose n ds more tr dr hm hB (by simp [hl]; omega) (by simpa using hs) (by simpa using hend)

section
variable {n : Nat} {ds : List (Option Tmp)} {a : Act} {w : World} {i : Nat} {prev : List (MP R)} {o : Oper} {l : List Oper}
/-- Whatever the relation. -/
theorem ls_gen (c : MP R) (h : ∀ (x : Nat → Value) (w' : World), R w w' → preds (phi prev) x w' o.after.toList →
      ∀ K : Act → World → Prop, (∀ v w'', c.p v w'' → R w' w'' → K ((frL ds 0 a x).put o.dst v) w'') → Held (if Region.wanted o (yielded ops (frL ds 0 a x).tmps) = true then Oper.wp P o (frL ds 0 a x) w' K Q else K ((frL ds 0 a x).put o.dst undef) w'))
    (hr : LS R P ops Q n ds a w (i + 1) (prev ++ [c]) l) : LS R P ops Q n ds a w i prev (o :: l) := ⟨c, fun x w' h1 h2 _ K hK => (h x w' h1 h2 K hK).out, hr⟩
/-- A value that is the same in every world. -/
theorem ls_val {v : Value} (h : ∀ (x : Nat → Value) (w' : World), R w w' → preds (phi prev) x w' o.after.toList →
      ∀ K : Act → World → Prop, (∀ w'', R w' w'' → K ((frL ds 0 a x).put o.dst v) w'') → Held (if Region.wanted o (yielded ops (frL ds 0 a x).tmps) = true then Oper.wp P o (frL ds 0 a x) w' K Q else K ((frL ds 0 a x).put o.dst undef) w'))
    (hr : LS R P ops Q n ds a w (i + 1) (prev ++ [.val v]) l) : LS R P ops Q n ds a w i prev (o :: l) :=
  ⟨.val v, fun x w' h1 h2 _ K hK => (h x w' h1 h2 K (fun w'' hg => hK v w'' rfl hg)).out, hr⟩
/-- .. where a slot is read that a later operation of the region writes. -/
theorem ls_old {v : Value} (h : ∀ (x : Nat → Value) (w' : World), R w w' → preds (phi prev) x w' o.after.toList → (∀ j, j < n → Region.waitsFor .any ops j i = true → x j = orig ds a j) →
      ∀ K : Act → World → Prop, (∀ w'', R w' w'' → K ((frL ds 0 a x).put o.dst v) w'') → Held (if Region.wanted o (yielded ops (frL ds 0 a x).tmps) = true then Oper.wp P o (frL ds 0 a x) w' K Q else K ((frL ds 0 a x).put o.dst undef) w'))
    (hr : LS R P ops Q n ds a w (i + 1) (prev ++ [.val v]) l) : LS R P ops Q n ds a w i prev (o :: l) :=
  ⟨.val v, fun x w' h1 h2 h3 K hK => (h x w' h1 h2 h3 K (fun w'' hg => hK v w'' rfl hg)).out, hr⟩
end
end
end Go.Proofs.YtfagfkfcokmclaaGreatDoor.RR
end

/- A region that draws its order, its values told by relations, its worlds by a relation of one's own: the text 'Lo' once more, any relation in the place of 'what was there stays'; and one relation more over all slots at once. -/
section
namespace Go.Proofs.YtfagfkfcokmclaaGreatDoor.RC
open Go.RowKit

section
variable {R : World → World → Prop} {P : Program} {ops : Array Oper} {Q : Exit → Act → World → Prop}

/-- One operation's part. -/
def LStep (R : World → World → Prop) (P : Program) (ops : Array Oper) (Q : Exit → Act → World → Prop) (φ : Nat → Value → World → Prop) (n : Nat) (ds : List (Option Tmp)) (J : (Nat → Value) → World → Prop) (a : Act) (w : World) (i : Nat) (o : Oper) : Prop :=
  ∀ (x : Nat → Value) (w' : World), R w w' → J x w' → preds φ x w' o.after.toList → (∀ j, j < n → Region.waitsFor .any ops j i = true → x j = orig ds a j) →
    ∀ K : Act → World → Prop, (∀ v w'', φ i v w'' → J (upd x i v) w'' → R w' w'' → K ((frL ds 0 a x).put o.dst v) w'') → if Region.wanted o (yielded ops (frL ds 0 a x).tmps) = true then Oper.wp P o (frL ds 0 a x) w' K Q else K ((frL ds 0 a x).put o.dst undef) w'
def LSteps (R : World → World → Prop) (P : Program) (ops : Array Oper) (Q : Exit → Act → World → Prop) (φ : Nat → Value → World → Prop) (n : Nat) (ds : List (Option Tmp)) (J : (Nat → Value) → World → Prop) (a : Act) (w : World) : Nat → List Oper → Prop
  | _, [] => True
  | i, o :: l => LStep R P ops Q φ n ds J a w i o ∧ LSteps R P ops Q φ n ds J a w (i + 1) l
theorem LSteps_at {φ : Nat → Value → World → Prop} {n : Nat} {ds : List (Option Tmp)} {J : (Nat → Value) → World → Prop} {a : Act} {w : World} : ∀ (l : List Oper) (i k : Nat) (o : Oper), LSteps R P ops Q φ n ds J a w i l → l[k]? = some o → LStep R P ops Q φ n ds J a w (i + k) o
  | [], _, _, _, _, h => by simp at h
  | o' :: l, i, 0, o, hs, h => by simp at h; subst h; exact hs.1
  | o' :: l, i, k + 1, o, hs, h => by
    have := LSteps_at l (i + 1) k o hs.2 (by simpa using h)
    rwa [show i + 1 + k = i + (k + 1) by omega] at this

theorem wp_region_loose {id : Nat} {a : Act} {w : World} (n : Nat) (ds : List (Option Tmp)) (J : (Nat → Value) → World → Prop) (φ : Nat → Value → World → Prop)
    (tr : ∀ a b c, R a b → R b c → R a c) (dr : ∀ w, R w { w with drawn := w.drawn + 1 }) (hJ0 : ∀ w', J (orig ds a) w') (hm : P.follows .mixedOrders = true) (hB : looseB ops n ds = true)
    (hmono : ∀ i v w1 w2, φ i v w1 → R w1 w2 → φ i v w2)
    (hsteps : LSteps R P ops Q φ n ds J a w 0 (ops.toList.take n))
    (hend : ∀ x w', R w w' → (∀ i, i < n → φ i (x i) w') → J x w' → wpList P ops Q (ops.toList.drop n) (frL ds 0 a x) w') : (Code.region id ops true).wp P Q a w := by
  simp only [looseB, Bool.and_eq_true, Bool.or_eq_true, decide_eq_true_eq] at hB
  obtain ⟨⟨⟨⟨⟨hn, hds⟩, hap⟩, hback⟩, htail⟩, hseq⟩ := hB
  have hlen : ds.length = n := by rw [hds]; simp; omega
  have hdst : ∀ i o, i < n → ops[i]? = some o → (ds[i]?).getD none = o.dst := by
    intro i o hi ho
    rw [hds, List.getElem?_map, List.getElem?_take_of_lt hi]
    simp [ho]
  refine wp_region_any hm ?_
  have main : ∀ (f : Nat) (listed : Array Bool) (x : Nat → Value) (w' : World), HeadInv .any ops n listed → R w w' →
      (∀ i, i < n → listed.getD i true = true → φ i (x i) w') → J x w' → (∀ i, i < n → listed.getD i true = false → x i = orig ds a i) → unl listed n = f →
      wpAny P .any ops Q (f + (ops.size - n)) listed (frL ds 0 a x) w' := by
    intro f
    induction f with
    | zero =>
      intro listed x w' inv hb hφ hcp ho hu
      have hall := unl_zero listed n hu
      rw [listed_eq inv hall, Nat.zero_add]
      have hl : (ops.toList.drop n).length = ops.size - n := by simp
      rw [← hl]
      refine wpAny_of_seq (ops.toList.drop n) n _ _ _ (fun j => by simp) (by rw [hl]; exact hseq) (hend x w' hb (fun i hi => hφ i hi (hall i hi)) hcp)
    | succ f ih =>
      intro listed x w' inv hb hφ hcp ho hu
      rw [show f + 1 + (ops.size - n) = (f + (ops.size - n)) + 1 by omega]
      obtain ⟨k, hk, hku, hkl⟩ := unl_least listed n (by omega)
      have hsz := inv.size
      have hkr : k ∈ Region.ready .any ops listed := by
        rw [mem_ready]
        have hok : ∃ o, ops[k]? = some o := ⟨ops[k]'(by omega), by simp⟩
        obtain ⟨o, hok⟩ := hok
        refine ⟨hku, o, hok, fun e he hbd => ?_⟩
        have h1 := List.all_eq_true.1 hback k (List.mem_range.2 (by omega))
        rw [hok] at h1
        simp only [Option.map_some, Option.getD_some] at h1
        have h2 := Array.all_eq_true_iff_forall_mem.1 h1 e he
        simp only [hbd, Bool.not_true, Bool.false_or, decide_eq_true_eq] at h2
        have h3 := hkl e.on h2
        have hlt : e.on < listed.size := by omega
        simp [hlt] at h3 ⊢
        exact h3
      refine ⟨fun h => (by rw [h] at hkr; cases hkr), fun i hi => ?_⟩
      obtain ⟨hun, o, hoi, hall⟩ := mem_ready.1 hi
      have hilt : i < ops.size := (Array.getElem?_eq_some_iff.1 hoi).1
      have hin : i < n := by
        rcases htail with htail | ⟨hs, hc⟩
        · omega
        · rcases Nat.lt_or_ge i n with h | h
          · exact h
          · exact absurd hi (tail_waits hs hc (by omega) inv _ k rfl hk hku i h)
      have hst := LSteps_at (ops.toList.take n) 0 i o hsteps (by rw [List.getElem?_take_of_lt hin]; simpa using hoi)
      rw [Nat.zero_add] at hst
      have hpre : preds φ x w' o.after.toList := preds_of _ fun e he hbd => by
        have he' : e ∈ o.after := by simpa using he
        have h1 := hall e he' hbd
        have h4 := List.all_eq_true.1 hback i (List.mem_range.2 hilt)
        rw [hoi] at h4
        simp only [Option.map_some, Option.getD_some] at h4
        have h2 := Array.all_eq_true_iff_forall_mem.1 h4 e he'
        simp only [hbd, Bool.not_true, Bool.false_or, decide_eq_true_eq] at h2
        refine hφ e.on (by omega) ?_
        have hlt : e.on < listed.size := by omega
        simp [hlt] at h1 ⊢
        exact h1
      have hor : ∀ j, j < n → Region.waitsFor .any ops j i = true → x j = orig ds a j := fun j hj hw => by
        refine ho j hj ?_
        obtain ⟨oj, hoj, e, he, hbd, hon⟩ := Region.waitsFor_spec hw
        cases hl : listed.getD j true with
        | false => rfl
        | true =>
          have hlt : j < listed.size := by omega
          have hl' : listed.getD j false = true := by simp [hlt] at hl ⊢; exact hl
          have h5 := inv.closed j oj hoj hl' e he hbd
          rw [hon, getD_both hun] at h5
          cases h5
      have hstep := hst x w' hb hcp hpre hor (wpAny P .any ops Q (f + (ops.size - n)) (listed.setIfInBounds i true)) (fun v w'' hv hvc hg => by
        rw [← hdst i o hin hoi, frL_put v ds 0 i a x hap (by omega), Nat.zero_add]
        refine ih (listed.setIfInBounds i true) (upd x i v) w'' (inv.set hi hin) (tr _ _ _ hb hg) ?_ ?_ ?_ ?_
        · intro j hj hjl
          by_cases hji : j = i
          · subst hji; simpa [upd] using hv
          · rw [getD_set_ne true (Ne.symm hji)] at hjl
            simpa [upd, hji] using hmono j _ _ _ (hφ j hj hjl) hg
        · exact hvc
        · intro j hj hjl
          have hji : j ≠ i := by
            intro h; subst h
            have hlt : j < listed.size := by omega
            simp [hlt] at hjl
          rw [getD_set_ne true (Ne.symm hji)] at hjl
          simpa [upd, hji] using ho j hj hjl
        · have := unl_set listed i hun n hin
          omega)
      unfold wpOp
      simp only [hoi]
      split at hstep
      · rename_i hwt
        rw [if_pos hwt]
        exact .inl hstep
      · rename_i hwt
        rw [if_neg hwt]
        exact hstep
  have h0 := main n (Array.replicate ops.size false) (orig ds a) { w with drawn := w.drawn + 1 } ⟨by simp, (fun j oj hj hl => by rw [getD_replicate_false] at hl; cases hl), (fun t ht ht' => getD_rep _ _ ht')⟩ (dr w)
    (fun i hi hl => by rw [getD_rep _ _ (by omega)] at hl; cases hl) (hJ0 _) (fun _ _ _ => rfl) ?_
  · rw [frL_orig ds 0 a (orig ds a) (fun k hk => by simp) hap] at h0
    rwa [show n + (ops.size - n) = ops.size by omega] at h0
  · have hc : ∀ m, m ≤ ops.size → unl (Array.replicate ops.size false) m = m := by
      intro m
      induction m with
      | zero => intro _; rfl
      | succ m ih =>
        intro hm'
        simp only [unl]
        rw [ih (by omega), if_pos (getD_rep _ _ (by omega))]
    exact hc n hn

/-- A relation between a slot's value and the world that later growth keeps. -/
structure MP (R : World → World → Prop) where
  p : Value → World → Prop
  m : ∀ v w w', p v w → R w w' → p v w'
def MP.any : MP R := ⟨fun _ _ => True, fun _ _ _ _ _ => trivial⟩
/-- This value. -/
def MP.val (u : Value) : MP R := ⟨fun v _ => v = u, fun _ _ _ h _ => h⟩
def phi (l : List (MP R)) (i : Nat) (v : Value) (w : World) : Prop := ((l[i]?).getD MP.any).p v w
def phis (l : List (MP R)) (x : Nat → Value) (w : World) : Nat → Prop
  | i => match l with
    | [] => True
    | c :: r => c.p (x i) w ∧ phis r x w (i + 1)
theorem phis_of (x : Nat → Value) (w : World) : ∀ (l : List (MP R)) (i : Nat), (∀ k, k < l.length → ((l[k]?).getD MP.any).p (x (i + k)) w) → phis l x w i
  | [], _, _ => trivial
  | c :: r, i, h => ⟨by simpa using h 0 (by simp), phis_of x w r (i + 1) fun k hk => by
      have := h (k + 1) (by simpa using hk)
      rw [show i + 1 + k = i + (k + 1) by omega]
      simpa using this⟩

theorem region_loose {id : Nat} {a : Act} {w : World} (n : Nat) (ds : List (Option Tmp)) (J : (Nat → Value) → World → Prop) (l : List (MP R))
    (tr : ∀ a b c, R a b → R b c → R a c) (dr : ∀ w, R w { w with drawn := w.drawn + 1 }) (hJ0 : ∀ w', J (orig ds a) w') (hm : P.follows .mixedOrders = true) (hB : looseB ops n ds = true) (hl : l.length = n)
    (hsteps : LSteps R P ops Q (phi l) n ds J a w 0 (ops.toList.take n))
    (hend : ∀ x w', R w w' → phis l x w' 0 → J x w' → wpList P ops Q (ops.toList.drop n) (frL ds 0 a x) w') : (Code.region id ops true).wp P Q a w :=
  wp_region_loose n ds J (phi l) tr dr hJ0 hm hB (fun i v w1 w2 h hb => (((l[i]?).getD MP.any).m v w1 w2 h hb)) hsteps
    (fun x w' hb h hcp => hend x w' hb (phis_of x w' l 0 (fun k hk => by rw [Nat.zero_add]; exact h k (by omega))) hcp)

/-- THE STEPS, IN THE TEXT's ORDER, each with the relation that it leaves; behind them the tail. -/
def LS (R : World → World → Prop) (P : Program) (ops : Array Oper) (Q : Exit → Act → World → Prop) (n : Nat) (ds : List (Option Tmp)) (J : (Nat → Value) → World → Prop) (a : Act) (w : World) : Nat → List (MP R) → List Oper → Prop
  | _, prev, [] => ∀ x w', R w w' → phis prev x w' 0 → J x w' → wpList P ops Q (ops.toList.drop n) (frL ds 0 a x) w'
  | i, prev, o :: l => ∃ c : MP R, (∀ (x : Nat → Value) (w' : World), R w w' → J x w' → preds (phi prev) x w' o.after.toList → (∀ j, j < n → Region.waitsFor .any ops j i = true → x j = orig ds a j) →
      ∀ K : Act → World → Prop, (∀ v w'', c.p v w'' → J (upd x i v) w'' → R w' w'' → K ((frL ds 0 a x).put o.dst v) w'') → if Region.wanted o (yielded ops (frL ds 0 a x).tmps) = true then Oper.wp P o (frL ds 0 a x) w' K Q else K ((frL ds 0 a x).put o.dst undef) w')
    ∧ LS R P ops Q n ds J a w (i + 1) (prev ++ [c]) l
theorem phi_append (l r : List (MP R)) (k : Nat) (h : k < l.length) : phi (l ++ r) k = phi l k := by
  funext v w
  simp [phi, List.getElem?_append_left h]
theorem preds_congr {φ ψ : Nat → Value → World → Prop} {x : Nat → Value} {w : World} : ∀ (l : List Edge), (∀ e ∈ l, Region.binds .any e = true → φ e.on = ψ e.on) → preds φ x w l → preds ψ x w l
  | [], _, _ => trivial
  | e :: l, h, hp => ⟨fun hb => by rw [← h e (List.mem_cons_self ..) hb]; exact hp.1 hb, preds_congr l (fun e' he' => h e' (List.mem_cons_of_mem _ he')) hp.2⟩
theorem LS_sound {n : Nat} {ds : List (Option Tmp)} {J : (Nat → Value) → World → Prop} {a : Act} {w : World} : ∀ (rest : List Oper) (i : Nat) (prev : List (MP R)), prev.length = i →
    (∀ k o, rest[k]? = some o → ∀ e ∈ o.after.toList, Region.binds .any e = true → e.on < i + k) → LS R P ops Q n ds J a w i prev rest →
    ∃ more : List (MP R), more.length = rest.length ∧ LSteps R P ops Q (phi (prev ++ more)) n ds J a w i rest ∧ (∀ x w', R w w' → phis (prev ++ more) x w' 0 → J x w' → wpList P ops Q (ops.toList.drop n) (frL ds 0 a x) w')
  | [], i, prev, _, _, h => ⟨[], rfl, trivial, by rw [List.append_nil]; exact h⟩
  | o :: l, i, prev, hl, hb, ⟨c, h1, h2⟩ => by
    obtain ⟨more, hm, hs, hend⟩ := LS_sound l (i + 1) (prev ++ [c]) (by simp [hl]) (fun k o' ho' e he hbd => by
      have := hb (k + 1) o' (by simpa using ho') e he hbd
      omega) h2
    refine ⟨c :: more, by simp [hm], ⟨?_, by simpa using hs⟩, by simpa using hend⟩
    intro x w' hw hj hpre ho K hK
    refine h1 x w' hw hj (preds_congr _ (fun e he hbd => ?_) hpre) ho K (fun v w'' hv hvc hg => hK v w'' ?_ hvc hg)
    · have := hb 0 o (by simp) e he hbd
      exact phi_append _ _ _ (by omega)
    · simpa [phi, ← hl] using hv

theorem region_steps {id : Nat} {a : Act} {w : World} (n : Nat) (ds : List (Option Tmp)) (J : (Nat → Value) → World → Prop)
    (tr : ∀ a b c, R a b → R b c → R a c) (dr : ∀ w, R w { w with drawn := w.drawn + 1 }) (hJ0 : ∀ w', J (orig ds a) w') (hm : P.follows .mixedOrders = true) (hB : looseB ops n ds = true) (h : LS R P ops Q n ds J a w 0 [] (ops.toList.take n)) : (Code.region id ops true).wp P Q a w := by
  have hB' := hB
  simp only [looseB, Bool.and_eq_true, Bool.or_eq_true, decide_eq_true_eq] at hB'
  obtain ⟨⟨⟨⟨⟨hn, _⟩, _⟩, hback⟩, _⟩, _⟩ := hB'
  obtain ⟨more, hl, hs, hend⟩ := LS_sound (ops.toList.take n) 0 [] rfl (fun k o ho e he hbd => by
    have hk : k < n := by
      rcases Nat.lt_or_ge k n with h | h
      · exact h
      · rw [List.getElem?_eq_none (by simp; omega)] at ho; cases ho
    rw [List.getElem?_take_of_lt hk] at ho
    have hko : ops[k]? = some o := by simpa using ho
    have h4 := List.all_eq_true.1 hback k (List.mem_range.2 (Array.getElem?_eq_some_iff.1 hko).1)
    rw [hko] at h4
    simp only [Option.map_some, Option.getD_some] at h4
    have h2 := Array.all_eq_true_iff_forall_mem.1 h4 e (by simpa using he)
    simp only [hbd, Bool.not_true, Bool.false_or, decide_eq_true_eq] at h2
    omega) h
  exact region_loose n ds J more tr dr hJ0 hm hB (by simp [hl]; omega) (by simpa using hs) (by simpa using hend)

section
variable {n : Nat} {ds : List (Option Tmp)} {J : (Nat → Value) → World → Prop} {a : Act} {w : World} {i : Nat} {prev : List (MP R)} {o : Oper} {l : List Oper}
/-- Whatever the relation. -/
theorem ls_gen (c : MP R) (h : ∀ (x : Nat → Value) (w' : World), R w w' → J x w' → preds (phi prev) x w' o.after.toList →
      ∀ K : Act → World → Prop, (∀ v w'', c.p v w'' → J (upd x i v) w'' → R w' w'' → K ((frL ds 0 a x).put o.dst v) w'') → Held (if Region.wanted o (yielded ops (frL ds 0 a x).tmps) = true then Oper.wp P o (frL ds 0 a x) w' K Q else K ((frL ds 0 a x).put o.dst undef) w'))
    (hr : LS R P ops Q n ds J a w (i + 1) (prev ++ [c]) l) : LS R P ops Q n ds J a w i prev (o :: l) := ⟨c, fun x w' h1 hj h2 _ K hK => (h x w' h1 hj h2 K hK).out, hr⟩
/-- .. where it counts that a later operation has not been. -/
theorem ls_genO (c : MP R) (h : ∀ (x : Nat → Value) (w' : World), R w w' → J x w' → preds (phi prev) x w' o.after.toList → (∀ j, j < n → Region.waitsFor .any ops j i = true → x j = orig ds a j) →
      ∀ K : Act → World → Prop, (∀ v w'', c.p v w'' → J (upd x i v) w'' → R w' w'' → K ((frL ds 0 a x).put o.dst v) w'') → Held (if Region.wanted o (yielded ops (frL ds 0 a x).tmps) = true then Oper.wp P o (frL ds 0 a x) w' K Q else K ((frL ds 0 a x).put o.dst undef) w'))
    (hr : LS R P ops Q n ds J a w (i + 1) (prev ++ [c]) l) : LS R P ops Q n ds J a w i prev (o :: l) := ⟨c, fun x w' h1 hj h2 ho K hK => (h x w' h1 hj h2 ho K hK).out, hr⟩
/-- A value that is the same in every world. -/
theorem ls_val {v : Value} (h0 : ∀ x v w1 w2, J x w1 → R w1 w2 → J (upd x i v) w2) (h : ∀ (x : Nat → Value) (w' : World), R w w' → preds (phi prev) x w' o.after.toList →
      ∀ K : Act → World → Prop, (∀ w'', R w' w'' → K ((frL ds 0 a x).put o.dst v) w'') → Held (if Region.wanted o (yielded ops (frL ds 0 a x).tmps) = true then Oper.wp P o (frL ds 0 a x) w' K Q else K ((frL ds 0 a x).put o.dst undef) w'))
    (hr : LS R P ops Q n ds J a w (i + 1) (prev ++ [.val v]) l) : LS R P ops Q n ds J a w i prev (o :: l) :=
  ⟨.val v, fun x w' h1 hj h2 _ K hK => (h x w' h1 h2 K (fun w'' hg => hK v w'' rfl (h0 x v w' w'' hj hg) hg)).out, hr⟩
end
end
end Go.Proofs.YtfagfkfcokmclaaGreatDoor.RC
end

/- A region that draws its order, its values told by relations, its worlds by a relation of one's own: the text 'Lo' once more, any relation in the place of 'what was there stays'; and one relation more over all slots at once, that holds at the beginning (the text 'LoC', where it is to hold in any world). -/
section
namespace Go.Proofs.YtfagfkfcokmclaaGreatDoor.RJ
open Go.RowKit

section
variable {R : World → World → Prop} {P : Program} {ops : Array Oper} {Q : Exit → Act → World → Prop}

/-- One operation's part. -/
def LStep (R : World → World → Prop) (P : Program) (ops : Array Oper) (Q : Exit → Act → World → Prop) (φ : Nat → Value → World → Prop) (n : Nat) (ds : List (Option Tmp)) (J : (Nat → Value) → World → Prop) (a : Act) (w : World) (i : Nat) (o : Oper) : Prop :=
  ∀ (x : Nat → Value) (w' : World), R w w' → J x w' → preds φ x w' o.after.toList → (∀ j, j < n → (j = i ∨ Region.waitsFor .any ops j i = true) → x j = orig ds a j) →
    ∀ K : Act → World → Prop, (∀ v w'', φ i v w'' → J (upd x i v) w'' → R w' w'' → K ((frL ds 0 a x).put o.dst v) w'') → if Region.wanted o (yielded ops (frL ds 0 a x).tmps) = true then Oper.wp P o (frL ds 0 a x) w' K Q else K ((frL ds 0 a x).put o.dst undef) w'
def LSteps (R : World → World → Prop) (P : Program) (ops : Array Oper) (Q : Exit → Act → World → Prop) (φ : Nat → Value → World → Prop) (n : Nat) (ds : List (Option Tmp)) (J : (Nat → Value) → World → Prop) (a : Act) (w : World) : Nat → List Oper → Prop
  | _, [] => True
  | i, o :: l => LStep R P ops Q φ n ds J a w i o ∧ LSteps R P ops Q φ n ds J a w (i + 1) l
theorem LSteps_at {φ : Nat → Value → World → Prop} {n : Nat} {ds : List (Option Tmp)} {J : (Nat → Value) → World → Prop} {a : Act} {w : World} : ∀ (l : List Oper) (i k : Nat) (o : Oper), LSteps R P ops Q φ n ds J a w i l → l[k]? = some o → LStep R P ops Q φ n ds J a w (i + k) o
  | [], _, _, _, _, h => by simp at h
  | o' :: l, i, 0, o, hs, h => by simp at h; subst h; exact hs.1
  | o' :: l, i, k + 1, o, hs, h => by
    have := LSteps_at l (i + 1) k o hs.2 (by simpa using h)
    rwa [show i + 1 + k = i + (k + 1) by omega] at this

theorem wp_region_loose {id : Nat} {a : Act} {w : World} (n : Nat) (ds : List (Option Tmp)) (J : (Nat → Value) → World → Prop) (φ : Nat → Value → World → Prop)
    (tr : ∀ a b c, R a b → R b c → R a c) (dr : ∀ w, R w { w with drawn := w.drawn + 1 }) (hJ0 : J (orig ds a) { w with drawn := w.drawn + 1 }) (hm : P.follows .mixedOrders = true) (hB : looseB ops n ds = true)
    (hmono : ∀ i v w1 w2, φ i v w1 → R w1 w2 → φ i v w2)
    (hsteps : LSteps R P ops Q φ n ds J a w 0 (ops.toList.take n))
    (hend : ∀ x w', R w w' → (∀ i, i < n → φ i (x i) w') → J x w' → wpList P ops Q (ops.toList.drop n) (frL ds 0 a x) w') : (Code.region id ops true).wp P Q a w := by
  simp only [looseB, Bool.and_eq_true, Bool.or_eq_true, decide_eq_true_eq] at hB
  obtain ⟨⟨⟨⟨⟨hn, hds⟩, hap⟩, hback⟩, htail⟩, hseq⟩ := hB
  have hlen : ds.length = n := by rw [hds]; simp; omega
  have hdst : ∀ i o, i < n → ops[i]? = some o → (ds[i]?).getD none = o.dst := by
    intro i o hi ho
    rw [hds, List.getElem?_map, List.getElem?_take_of_lt hi]
    simp [ho]
  refine wp_region_any hm ?_
  have main : ∀ (f : Nat) (listed : Array Bool) (x : Nat → Value) (w' : World), HeadInv .any ops n listed → R w w' →
      (∀ i, i < n → listed.getD i true = true → φ i (x i) w') → J x w' → (∀ i, i < n → listed.getD i true = false → x i = orig ds a i) → unl listed n = f →
      wpAny P .any ops Q (f + (ops.size - n)) listed (frL ds 0 a x) w' := by
    intro f
    induction f with
    | zero =>
      intro listed x w' inv hb hφ hcp ho hu
      have hall := unl_zero listed n hu
      rw [listed_eq inv hall, Nat.zero_add]
      have hl : (ops.toList.drop n).length = ops.size - n := by simp
      rw [← hl]
      refine wpAny_of_seq (ops.toList.drop n) n _ _ _ (fun j => by simp) (by rw [hl]; exact hseq) (hend x w' hb (fun i hi => hφ i hi (hall i hi)) hcp)
    | succ f ih =>
      intro listed x w' inv hb hφ hcp ho hu
      rw [show f + 1 + (ops.size - n) = (f + (ops.size - n)) + 1 by omega]
      obtain ⟨k, hk, hku, hkl⟩ := unl_least listed n (by omega)
      have hsz := inv.size
      have hkr : k ∈ Region.ready .any ops listed := by
        rw [mem_ready]
        have hok : ∃ o, ops[k]? = some o := ⟨ops[k]'(by omega), by simp⟩
        obtain ⟨o, hok⟩ := hok
        refine ⟨hku, o, hok, fun e he hbd => ?_⟩
        have h1 := List.all_eq_true.1 hback k (List.mem_range.2 (by omega))
        rw [hok] at h1
        simp only [Option.map_some, Option.getD_some] at h1
        have h2 := Array.all_eq_true_iff_forall_mem.1 h1 e he
        simp only [hbd, Bool.not_true, Bool.false_or, decide_eq_true_eq] at h2
        have h3 := hkl e.on h2
        have hlt : e.on < listed.size := by omega
        simp [hlt] at h3 ⊢
        exact h3
      refine ⟨fun h => (by rw [h] at hkr; cases hkr), fun i hi => ?_⟩
      obtain ⟨hun, o, hoi, hall⟩ := mem_ready.1 hi
      have hilt : i < ops.size := (Array.getElem?_eq_some_iff.1 hoi).1
      have hin : i < n := by
        rcases htail with htail | ⟨hs, hc⟩
        · omega
        · rcases Nat.lt_or_ge i n with h | h
          · exact h
          · exact absurd hi (tail_waits hs hc (by omega) inv _ k rfl hk hku i h)
      have hst := LSteps_at (ops.toList.take n) 0 i o hsteps (by rw [List.getElem?_take_of_lt hin]; simpa using hoi)
      rw [Nat.zero_add] at hst
      have hpre : preds φ x w' o.after.toList := preds_of _ fun e he hbd => by
        have he' : e ∈ o.after := by simpa using he
        have h1 := hall e he' hbd
        have h4 := List.all_eq_true.1 hback i (List.mem_range.2 hilt)
        rw [hoi] at h4
        simp only [Option.map_some, Option.getD_some] at h4
        have h2 := Array.all_eq_true_iff_forall_mem.1 h4 e he'
        simp only [hbd, Bool.not_true, Bool.false_or, decide_eq_true_eq] at h2
        refine hφ e.on (by omega) ?_
        have hlt : e.on < listed.size := by omega
        simp [hlt] at h1 ⊢
        exact h1
      have hor : ∀ j, j < n → (j = i ∨ Region.waitsFor .any ops j i = true) → x j = orig ds a j := fun j hj hw => by
        refine ho j hj ?_
        rcases hw with rfl | hw
        · have hlt : j < listed.size := by omega
          simp [hlt] at hun ⊢
          exact hun
        obtain ⟨oj, hoj, e, he, hbd, hon⟩ := Region.waitsFor_spec hw
        cases hl : listed.getD j true with
        | false => rfl
        | true =>
          have hlt : j < listed.size := by omega
          have hl' : listed.getD j false = true := by simp [hlt] at hl ⊢; exact hl
          have h5 := inv.closed j oj hoj hl' e he hbd
          rw [hon, getD_both hun] at h5
          cases h5
      have hstep := hst x w' hb hcp hpre hor (wpAny P .any ops Q (f + (ops.size - n)) (listed.setIfInBounds i true)) (fun v w'' hv hvc hg => by
        rw [← hdst i o hin hoi, frL_put v ds 0 i a x hap (by omega), Nat.zero_add]
        refine ih (listed.setIfInBounds i true) (upd x i v) w'' (inv.set hi hin) (tr _ _ _ hb hg) ?_ ?_ ?_ ?_
        · intro j hj hjl
          by_cases hji : j = i
          · subst hji; simpa [upd] using hv
          · rw [getD_set_ne true (Ne.symm hji)] at hjl
            simpa [upd, hji] using hmono j _ _ _ (hφ j hj hjl) hg
        · exact hvc
        · intro j hj hjl
          have hji : j ≠ i := by
            intro h; subst h
            have hlt : j < listed.size := by omega
            simp [hlt] at hjl
          rw [getD_set_ne true (Ne.symm hji)] at hjl
          simpa [upd, hji] using ho j hj hjl
        · have := unl_set listed i hun n hin
          omega)
      unfold wpOp
      simp only [hoi]
      split at hstep
      · rename_i hwt
        rw [if_pos hwt]
        exact .inl hstep
      · rename_i hwt
        rw [if_neg hwt]
        exact hstep
  have h0 := main n (Array.replicate ops.size false) (orig ds a) { w with drawn := w.drawn + 1 } ⟨by simp, (fun j oj hj hl => by rw [getD_replicate_false] at hl; cases hl), (fun t ht ht' => getD_rep _ _ ht')⟩ (dr w)
    (fun i hi hl => by rw [getD_rep _ _ (by omega)] at hl; cases hl) hJ0 (fun _ _ _ => rfl) ?_
  · rw [frL_orig ds 0 a (orig ds a) (fun k hk => by simp) hap] at h0
    rwa [show n + (ops.size - n) = ops.size by omega] at h0
  · have hc : ∀ m, m ≤ ops.size → unl (Array.replicate ops.size false) m = m := by
      intro m
      induction m with
      | zero => intro _; rfl
      | succ m ih =>
        intro hm'
        simp only [unl]
        rw [ih (by omega), if_pos (getD_rep _ _ (by omega))]
    exact hc n hn

/-- A relation between a slot's value and the world that later growth keeps. -/
structure MP (R : World → World → Prop) where
  p : Value → World → Prop
  m : ∀ v w w', p v w → R w w' → p v w'
def MP.any : MP R := ⟨fun _ _ => True, fun _ _ _ _ _ => trivial⟩
/-- This value. -/
def MP.val (u : Value) : MP R := ⟨fun v _ => v = u, fun _ _ _ h _ => h⟩
def phi (l : List (MP R)) (i : Nat) (v : Value) (w : World) : Prop := ((l[i]?).getD MP.any).p v w
def phis (l : List (MP R)) (x : Nat → Value) (w : World) : Nat → Prop
  | i => match l with
    | [] => True
    | c :: r => c.p (x i) w ∧ phis r x w (i + 1)
theorem phis_of (x : Nat → Value) (w : World) : ∀ (l : List (MP R)) (i : Nat), (∀ k, k < l.length → ((l[k]?).getD MP.any).p (x (i + k)) w) → phis l x w i
  | [], _, _ => trivial
  | c :: r, i, h => ⟨by simpa using h 0 (by simp), phis_of x w r (i + 1) fun k hk => by
      have := h (k + 1) (by simpa using hk)
      rw [show i + 1 + k = i + (k + 1) by omega]
      simpa using this⟩

theorem region_loose {id : Nat} {a : Act} {w : World} (n : Nat) (ds : List (Option Tmp)) (J : (Nat → Value) → World → Prop) (l : List (MP R))
    (tr : ∀ a b c, R a b → R b c → R a c) (dr : ∀ w, R w { w with drawn := w.drawn + 1 }) (hJ0 : J (orig ds a) { w with drawn := w.drawn + 1 }) (hm : P.follows .mixedOrders = true) (hB : looseB ops n ds = true) (hl : l.length = n)
    (hsteps : LSteps R P ops Q (phi l) n ds J a w 0 (ops.toList.take n))
    (hend : ∀ x w', R w w' → phis l x w' 0 → J x w' → wpList P ops Q (ops.toList.drop n) (frL ds 0 a x) w') : (Code.region id ops true).wp P Q a w :=
  wp_region_loose n ds J (phi l) tr dr hJ0 hm hB (fun i v w1 w2 h hb => (((l[i]?).getD MP.any).m v w1 w2 h hb)) hsteps
    (fun x w' hb h hcp => hend x w' hb (phis_of x w' l 0 (fun k hk => by rw [Nat.zero_add]; exact h k (by omega))) hcp)

/-- THE STEPS, IN THE TEXT's ORDER, each with the relation that it leaves; behind them the tail. -/
def LS (R : World → World → Prop) (P : Program) (ops : Array Oper) (Q : Exit → Act → World → Prop) (n : Nat) (ds : List (Option Tmp)) (J : (Nat → Value) → World → Prop) (a : Act) (w : World) : Nat → List (MP R) → List Oper → Prop
  | _, prev, [] => ∀ x w', R w w' → phis prev x w' 0 → J x w' → wpList P ops Q (ops.toList.drop n) (frL ds 0 a x) w'
  | i, prev, o :: l => ∃ c : MP R, (∀ (x : Nat → Value) (w' : World), R w w' → J x w' → preds (phi prev) x w' o.after.toList → (∀ j, j < n → (j = i ∨ Region.waitsFor .any ops j i = true) → x j = orig ds a j) →
      ∀ K : Act → World → Prop, (∀ v w'', c.p v w'' → J (upd x i v) w'' → R w' w'' → K ((frL ds 0 a x).put o.dst v) w'') → if Region.wanted o (yielded ops (frL ds 0 a x).tmps) = true then Oper.wp P o (frL ds 0 a x) w' K Q else K ((frL ds 0 a x).put o.dst undef) w')
    ∧ LS R P ops Q n ds J a w (i + 1) (prev ++ [c]) l
theorem phi_append (l r : List (MP R)) (k : Nat) (h : k < l.length) : phi (l ++ r) k = phi l k := by
  funext v w
  simp [phi, List.getElem?_append_left h]
theorem preds_congr {φ ψ : Nat → Value → World → Prop} {x : Nat → Value} {w : World} : ∀ (l : List Edge), (∀ e ∈ l, Region.binds .any e = true → φ e.on = ψ e.on) → preds φ x w l → preds ψ x w l
  | [], _, _ => trivial
  | e :: l, h, hp => ⟨fun hb => by rw [← h e (List.mem_cons_self ..) hb]; exact hp.1 hb, preds_congr l (fun e' he' => h e' (List.mem_cons_of_mem _ he')) hp.2⟩
theorem LS_sound {n : Nat} {ds : List (Option Tmp)} {J : (Nat → Value) → World → Prop} {a : Act} {w : World} : ∀ (rest : List Oper) (i : Nat) (prev : List (MP R)), prev.length = i →
    (∀ k o, rest[k]? = some o → ∀ e ∈ o.after.toList, Region.binds .any e = true → e.on < i + k) → LS R P ops Q n ds J a w i prev rest →
    ∃ more : List (MP R), more.length = rest.length ∧ LSteps R P ops Q (phi (prev ++ more)) n ds J a w i rest ∧ (∀ x w', R w w' → phis (prev ++ more) x w' 0 → J x w' → wpList P ops Q (ops.toList.drop n) (frL ds 0 a x) w')
  | [], i, prev, _, _, h => ⟨[], rfl, trivial, by rw [List.append_nil]; exact h⟩
  | o :: l, i, prev, hl, hb, ⟨c, h1, h2⟩ => by
    obtain ⟨more, hm, hs, hend⟩ := LS_sound l (i + 1) (prev ++ [c]) (by simp [hl]) (fun k o' ho' e he hbd => by
      have := hb (k + 1) o' (by simpa using ho') e he hbd
      omega) h2
    refine ⟨c :: more, by simp [hm], ⟨?_, by simpa using hs⟩, by simpa using hend⟩
    intro x w' hw hj hpre ho K hK
    refine h1 x w' hw hj (preds_congr _ (fun e he hbd => ?_) hpre) ho K (fun v w'' hv hvc hg => hK v w'' ?_ hvc hg)
    · have := hb 0 o (by simp) e he hbd
      exact phi_append _ _ _ (by omega)
    · simpa [phi, ← hl] using hv

theorem region_steps {id : Nat} {a : Act} {w : World} (n : Nat) (ds : List (Option Tmp)) (J : (Nat → Value) → World → Prop)
    (tr : ∀ a b c, R a b → R b c → R a c) (dr : ∀ w, R w { w with drawn := w.drawn + 1 }) (hJ0 : J (orig ds a) { w with drawn := w.drawn + 1 }) (hm : P.follows .mixedOrders = true) (hB : looseB ops n ds = true) (h : LS R P ops Q n ds J a w 0 [] (ops.toList.take n)) : (Code.region id ops true).wp P Q a w := by
  have hB' := hB
  simp only [looseB, Bool.and_eq_true, Bool.or_eq_true, decide_eq_true_eq] at hB'
  obtain ⟨⟨⟨⟨⟨hn, _⟩, _⟩, hback⟩, _⟩, _⟩ := hB'
  obtain ⟨more, hl, hs, hend⟩ := LS_sound (ops.toList.take n) 0 [] rfl (fun k o ho e he hbd => by
    have hk : k < n := by
      rcases Nat.lt_or_ge k n with h | h
      · exact h
      · rw [List.getElem?_eq_none (by simp; omega)] at ho; cases ho
    rw [List.getElem?_take_of_lt hk] at ho
    have hko : ops[k]? = some o := by simpa using ho
    have h4 := List.all_eq_true.1 hback k (List.mem_range.2 (Array.getElem?_eq_some_iff.1 hko).1)
    rw [hko] at h4
    simp only [Option.map_some, Option.getD_some] at h4
    have h2 := Array.all_eq_true_iff_forall_mem.1 h4 e (by simpa using he)
    simp only [hbd, Bool.not_true, Bool.false_or, decide_eq_true_eq] at h2
    omega) h
  exact region_loose n ds J more tr dr hJ0 hm hB (by simp [hl]; omega) (by simpa using hs) (by simpa using hend)

section
variable {n : Nat} {ds : List (Option Tmp)} {J : (Nat → Value) → World → Prop} {a : Act} {w : World} {i : Nat} {prev : List (MP R)} {o : Oper} {l : List Oper}
/-- Whatever the relation. -/
theorem ls_gen (c : MP R) (h : ∀ (x : Nat → Value) (w' : World), R w w' → J x w' → preds (phi prev) x w' o.after.toList →
      ∀ K : Act → World → Prop, (∀ v w'', c.p v w'' → J (upd x i v) w'' → R w' w'' → K ((frL ds 0 a x).put o.dst v) w'') → Held (if Region.wanted o (yielded ops (frL ds 0 a x).tmps) = true then Oper.wp P o (frL ds 0 a x) w' K Q else K ((frL ds 0 a x).put o.dst undef) w'))
    (hr : LS R P ops Q n ds J a w (i + 1) (prev ++ [c]) l) : LS R P ops Q n ds J a w i prev (o :: l) := ⟨c, fun x w' h1 hj h2 _ K hK => (h x w' h1 hj h2 K hK).out, hr⟩
/-- .. where it counts that a later operation has not been. -/
theorem ls_genO (c : MP R) (h : ∀ (x : Nat → Value) (w' : World), R w w' → J x w' → preds (phi prev) x w' o.after.toList → (∀ j, j < n → (j = i ∨ Region.waitsFor .any ops j i = true) → x j = orig ds a j) →
      ∀ K : Act → World → Prop, (∀ v w'', c.p v w'' → J (upd x i v) w'' → R w' w'' → K ((frL ds 0 a x).put o.dst v) w'') → Held (if Region.wanted o (yielded ops (frL ds 0 a x).tmps) = true then Oper.wp P o (frL ds 0 a x) w' K Q else K ((frL ds 0 a x).put o.dst undef) w'))
    (hr : LS R P ops Q n ds J a w (i + 1) (prev ++ [c]) l) : LS R P ops Q n ds J a w i prev (o :: l) := ⟨c, fun x w' h1 hj h2 ho K hK => (h x w' h1 hj h2 ho K hK).out, hr⟩
/-- A value that is the same in every world. -/
theorem ls_val {v : Value} (h0 : ∀ x v w1 w2, J x w1 → R w1 w2 → J (upd x i v) w2) (h : ∀ (x : Nat → Value) (w' : World), R w w' → preds (phi prev) x w' o.after.toList →
      ∀ K : Act → World → Prop, (∀ w'', R w' w'' → K ((frL ds 0 a x).put o.dst v) w'') → Held (if Region.wanted o (yielded ops (frL ds 0 a x).tmps) = true then Oper.wp P o (frL ds 0 a x) w' K Q else K ((frL ds 0 a x).put o.dst undef) w'))
    (hr : LS R P ops Q n ds J a w (i + 1) (prev ++ [.val v]) l) : LS R P ops Q n ds J a w i prev (o :: l) :=
  ⟨.val v, fun x w' h1 hj h2 _ K hK => (h x w' h1 h2 K (fun w'' hg => hK v w'' rfl (h0 x v w' w'' hj hg) hg)).out, hr⟩
end
end
end Go.Proofs.YtfagfkfcokmclaaGreatDoor.RJ
end

/- A drawn region that makes one box and fills it: the worlds' relation, the relation between the box's slot and the store. -/
section
set_option linter.unusedVariables false
namespace Go.Proofs.YtfagfkfcokmclaaGreatDoor
open Go.RowKit

/-- Boxes of the call's own are filled with one thing or another; what lies below them stays. -/
structure RE (B : Nat) (t : TypeId) (F : Array Value) (w w' : World) : Prop where
  bl : Below B w w'
  k : ∀ q cs, Blk w q cs t → cs.size = F.size → ∃ cs', cs'.size = F.size ∧ Blk w' q cs' t
  g : ∀ q, Blk w q F t → Blk w' q F t
section
variable {B : Nat} {t : TypeId} {F : Array Value}
theorem RE.refl (w : World) : RE B t F w w := ⟨Below.refl _ _, fun _ cs h e => ⟨cs, e, h⟩, fun _ h => h⟩
theorem RE.trans : ∀ a b c, RE B t F a b → RE B t F b c → RE B t F a c := fun a b c h1 h2 =>
  ⟨h1.bl.trans h2.bl, fun q cs h e => by obtain ⟨cs', e', h'⟩ := h1.k q cs h e; exact h2.k q _ h' e', fun q h => h2.g q (h1.g q h)⟩
theorem RE.drew (w : World) : RE B t F w { w with drawn := w.drawn + 1 } := ⟨(Below.refl _ _).drew, fun _ cs h e => ⟨cs, e, h⟩, fun _ h => h⟩
theorem RE.ofBelow {w w' : World} (hb : Below w.heap.size w w') (hS : B ≤ w.heap.size) : RE B t F w w' :=
  ⟨hb.mono hS, fun _ cs h e => ⟨cs, e, h.below hb h.lt⟩, fun _ h => h.below hb h.lt⟩
theorem RE.put2 {w : World} {q : Nat} {a b x y : Value} (hf : F = #[x, y]) (h : Blk w q #[a, b] t) (hS : B ≤ q) :
    RE B t F w ((w.setCell ⟨q, 0, none⟩ x).setCell ⟨q, 1, none⟩ y) ∧ Blk ((w.setCell ⟨q, 0, none⟩ x).setCell ⟨q, 1, none⟩ y) q F t := by
  subst hf
  have hB : Blk ((w.setCell ⟨q, 0, none⟩ x).setCell ⟨q, 1, none⟩ y) q #[x, y] t := (h.set 0 _).set 1 _
  refine ⟨⟨((Below.refl _ _).setCell (by simpa using hS) _).setCell (by simpa using hS) _, fun q' cs h' e' => ?_, fun q' h' => ?_⟩, hB⟩
  · by_cases e : q' = q
    · subst e; exact ⟨_, rfl, hB⟩
    · exact ⟨cs, e', (h'.other e _).other e _⟩
  · by_cases e : q' = q
    · subst e; exact hB
    · exact (h'.other e _).other e _
theorem RE.put5 {w : World} {q : Nat} {a b c d e x y z u v : Value} (hf : F = #[x, y, z, u, v]) (h : Blk w q #[a, b, c, d, e] t) (hS : B ≤ q) :
    RE B t F w (((((w.setCell ⟨q, 0, none⟩ x).setCell ⟨q, 1, none⟩ y).setCell ⟨q, 2, none⟩ z).setCell ⟨q, 3, none⟩ u).setCell ⟨q, 4, none⟩ v) ∧ Blk (((((w.setCell ⟨q, 0, none⟩ x).setCell ⟨q, 1, none⟩ y).setCell ⟨q, 2, none⟩ z).setCell ⟨q, 3, none⟩ u).setCell ⟨q, 4, none⟩ v) q F t := by
  subst hf
  have hB : Blk (((((w.setCell ⟨q, 0, none⟩ x).setCell ⟨q, 1, none⟩ y).setCell ⟨q, 2, none⟩ z).setCell ⟨q, 3, none⟩ u).setCell ⟨q, 4, none⟩ v) q #[x, y, z, u, v] t := ((((h.set 0 _).set 1 _).set 2 _).set 3 _).set 4 _
  refine ⟨⟨(((((Below.refl _ _).setCell (by simpa using hS) _).setCell (by simpa using hS) _).setCell (by simpa using hS) _).setCell (by simpa using hS) _).setCell (by simpa using hS) _, fun q' cs h' e' => ?_, fun q' h' => ?_⟩, hB⟩
  · by_cases e : q' = q
    · subst e; exact ⟨_, rfl, hB⟩
    · exact ⟨cs, e', ((((h'.other e _).other e _).other e _).other e _).other e _⟩
  · by_cases e : q' = q
    · subst e; exact hB
    · exact ((((h'.other e _).other e _).other e _).other e _).other e _
/-- A box, whatever lies in it. -/
def MPbo (B : Nat) (t : TypeId) (F : Array Value) : RC.MP (RE B t F) := ⟨fun v w => ∃ q cs, v = .pointer (some ⟨q, 0, none⟩) ∧ B ≤ q ∧ cs.size = F.size ∧ Blk w q cs t, fun _ _ _ ⟨q, cs, h1, h2, e, h3⟩ hr => by obtain ⟨cs', e', h⟩ := hr.k q cs h3 e; exact ⟨q, cs', h1, h2, e', h⟩⟩
/-- The box, filled. -/
def MPfi (B : Nat) (t : TypeId) (F : Array Value) : RC.MP (RE B t F) := ⟨fun v w => ∃ q, v = .pointer (some ⟨q, 0, none⟩) ∧ B ≤ q ∧ Blk w q F t, fun _ _ _ ⟨q, h1, h2, h3⟩ hr => ⟨q, h1, h2, hr.g q h3⟩⟩
end
theorem arr2 {cs : Array Value} (h : cs.size = 2) : ∃ a b, cs = #[a, b] := by
  obtain ⟨l⟩ := cs
  match l, h with
  | [a, b], _ => exact ⟨a, b, rfl⟩
theorem arr5 {cs : Array Value} (h : cs.size = 5) : ∃ a b c d e, cs = #[a, b, c, d, e] := by
  obtain ⟨l⟩ := cs
  match l, h with
  | [a, b, c, d, e], _ => exact ⟨a, b, c, d, e, rfl⟩
/-- The store was into the box that slot i holds. -/
def JE (i s : Nat) (x : Nat → Value) (w : World) : Prop := ∀ q, x s = .pointer (some ⟨q, 0, none⟩) → x i = .pointer (some ⟨q, 0, none⟩)
section
variable {i s : Nat}
theorem JE.step {j : Nat} {R : World → World → Prop} (hj : (j != i && j != s) = true) : ∀ x v w1 w2, JE i s x w1 → R w1 w2 → JE i s (upd x j v) w2 := fun x v w1 w2 h _ q hq => by
  simp only [Bool.and_eq_true, bne_iff_ne] at hj
  have h6 : upd x j v i = x i := by simp [upd]; intro e; exact absurd e.symm hj.1
  have h7 : upd x j v s = x s := by simp [upd]; intro e; exact absurd e.symm hj.2
  rw [h7] at hq
  rw [h6]
  exact h q hq
theorem JE.make {x : Nat → Value} {w' : World} (h0 : ∀ q, x s ≠ .pointer (some ⟨q, 0, none⟩)) (hne : (s != i) = true) (v : Value) : JE i s (upd x i v) w' := fun q hq => by
  have h7 : upd x i v s = x s := by simp at hne; simp [upd, hne]
  rw [h7] at hq
  exact absurd hq (h0 q)
theorem JE.put {x : Nat → Value} {w' : World} {p : Nat} (hp : x i = .pointer (some ⟨p, 0, none⟩)) (hne : (i != s) = true) : JE i s (upd x s (.pointer (some ⟨p, 0, none⟩))) w' := fun q hq => by
  have h6 : upd x s (.pointer (some ⟨p, 0, none⟩)) i = x i := by simp at hne; simp [upd, hne]
  have h8 : upd x s (.pointer (some ⟨p, 0, none⟩)) s = .pointer (some ⟨p, 0, none⟩) := by simp [upd]
  rw [h8] at hq
  rw [h6, hp, hq]
end
end Go.Proofs.YtfagfkfcokmclaaGreatDoor
end
