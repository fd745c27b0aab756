/- A region that draws its order, its values told by relations that may look at the slots for which an operation has waited. -/
import Derived.Test.YtpnlhkpibgngbaaSg
namespace Go.Proofs.Ytpnlhkpibgngbaa
open Go.RowKit

/-- A relation between a slot's value, the slots d, and the world, that later growth keeps. -/
structure MX where
  p : (Nat → Value) → Value → World → Prop
  m : ∀ x v w w', p x v w → Below w.heap.size w w' → p x v w'
  d : List Nat
  l : ∀ x y v w, (∀ k ∈ d, x k = y k) → p x v w → p y v w
def MX.of (c : MP) : MX := ⟨fun _ v w => c.p v w, fun _ v w w' h hb => c.m v w w' h hb, [], fun _ _ _ _ _ h => h⟩
def MX.any : MX := .of .any
def MX.val (u : Value) : MX := .of (.val u)

section
variable {P : Program} {ops : Array Oper} {Q : Exit → Act → World → Prop}

def phiX (m : Nat) (l : List MX) (i : Nat) (x : Nat → Value) (w : World) : Prop := if i < m then True else ((l[i - m]?).getD MX.any).p x (x i) w
def predsX (φ : Nat → (Nat → Value) → World → Prop) (x : Nat → Value) (w : World) : List Edge → Prop
  | [] => True
  | e :: l => (Region.binds .any e = true → φ e.on x w) ∧ predsX φ x w l
theorem predsX_of {φ : Nat → (Nat → Value) → World → Prop} {x : Nat → Value} {w : World} : ∀ (l : List Edge), (∀ e ∈ l, Region.binds .any e = true → φ e.on x w) → predsX φ x w l
  | [], _ => trivial
  | e :: l, h => ⟨h e (List.mem_cons_self ..), predsX_of l fun e' he' => h e' (List.mem_cons_of_mem _ he')⟩
theorem predsX_congr {φ ψ : Nat → (Nat → Value) → World → Prop} {x : Nat → Value} {w : World} : ∀ (l : List Edge), (∀ e ∈ l, Region.binds .any e = true → φ e.on = ψ e.on) → predsX φ x w l → predsX ψ x w l
  | [], _, _ => trivial
  | e :: l, h, hp => ⟨fun hb => by rw [← h e (List.mem_cons_self ..) hb]; exact hp.1 hb, predsX_congr l (fun e' he' => h e' (List.mem_cons_of_mem _ he')) hp.2⟩
def depOf (m : Nat) (dd : List (List Nat)) (i : Nat) : List Nat := if i < m then [] else (dd[i - m]?).getD []
/-- What an operation's relation looks at it has waited for. -/
def depB (ops : Array Oper) (m n : Nat) (dd : List (List Nat)) : Bool :=
  (List.range (n - m)).all fun k => ((dd[k]?).getD []).all fun d => ((ops[m + k]?).map fun o => o.after.any fun e => Region.binds .any e && (e.on == d || (depOf m dd e.on).contains d)).getD false
theorem dep_listed {m n : Nat} {dd : List (List Nat)} {listed : Array Bool} (hD : depB ops m n dd = true) (hback : backB ops = true) (hn : n ≤ ops.size) (closed : ∀ j oj, ops[j]? = some oj → listed.getD j false = true → ∀ e ∈ oj.after, Region.binds .any e = true → listed.getD e.on false = true) :
    ∀ (i : Nat), i < n → (∀ o, ops[i]? = some o → ∀ e ∈ o.after, Region.binds .any e = true → listed.getD e.on false = true) → ∀ k ∈ depOf m dd i, listed.getD k false = true := by
  intro i
  induction i using Nat.strongRecOn with
  | _ i ih =>
    intro hi hl k hk
    unfold depOf at hk
    by_cases him : i < m
    · rw [if_pos him] at hk; cases hk
    rw [if_neg him] at hk
    have h1 := List.all_eq_true.1 hD (i - m) (List.mem_range.2 (by omega))
    have h2 := List.all_eq_true.1 h1 k hk
    rw [show m + (i - m) = i by omega] at h2
    have hio : ∃ o, ops[i]? = some o := ⟨ops[i]'(by omega), by simp⟩
    obtain ⟨o, ho⟩ := hio
    rw [ho] at h2
    simp only [Option.map_some, Option.getD_some] at h2
    obtain ⟨e, he, hb⟩ := Array.any_eq_true'.1 h2
    simp only [Bool.and_eq_true, Bool.or_eq_true, beq_iff_eq] at hb
    have hel := hl o ho e he hb.1
    rcases hb.2 with hb2 | hb2
    · rw [← hb2]; exact hel
    · have hlt : e.on < i := by
        have h4 := List.all_eq_true.1 hback i (List.mem_range.2 (by omega))
        rw [ho] at h4
        simp only [Option.map_some, Option.getD_some] at h4
        have h5 := Array.all_eq_true_iff_forall_mem.1 h4 e he
        simpa [hb.1] using h5
      exact ih e.on hlt (by omega) (fun o' ho' e' he' hb' => closed e.on o' ho' hel e' he' hb') k (by simpa using hb2)

theorem partX_loose {m n : Nat} {ds : List (Option Tmp)} {dd : List (List Nat)} {more : List MX} {a : Act} {w wc : World} (hw : Below w.heap.size w wc) (hB : partB ops m n ds = true) (hD : depB ops m n dd = true)
    (hdd : ∀ i, m ≤ i → i < n → ((more[i - m]?).getD MX.any).d = depOf m dd i)
    (hsteps : ∀ k o, k < n - m → ops[m + k]? = some o → ∀ (x : Nat → Value) (w' : World), Below w.heap.size w w' → predsX (phiX m more) x w' o.after.toList → (∀ j, m ≤ j → j < n → Region.waitsFor .any ops j (m + k) = true → x j = orig ds a (j - m)) →
      ∀ K : Act → World → Prop, (∀ v w'', ((more[k]?).getD MX.any).p x v w'' → Below w'.heap.size w' w'' → K ((frL ds m a x).put o.dst v) w'') → if Region.wanted o (yielded ops (frL ds m a x).tmps) = true then Oper.wp P o (frL ds m a x) w' K Q else K ((frL ds m a x).put o.dst undef) w')
    (hend : ∀ x w', Below w.heap.size w w' → (∀ i, m ≤ i → i < n → phiX m more i x w') → wpAny P .any ops Q (ops.size - n) (headOf n ops.size) (frL ds m a x) w') :
    wpAny P .any ops Q (ops.size - m) (headOf m ops.size) a wc := by
  unfold partB at hB
  simp only [Bool.and_eq_true, Bool.or_eq_true, decide_eq_true_eq] at hB
  obtain ⟨⟨⟨⟨⟨hmn, hn⟩, hds⟩, hap⟩, hback⟩, htail⟩ := hB
  have hlen : ds.length = n - m := by rw [hds]; simp; omega
  have hdst : ∀ i o, m ≤ i → i < n → ops[i]? = some o → (ds[i - m]?).getD none = o.dst := by
    intro i o h1 hi ho
    rw [hds, List.getElem?_map, List.getElem?_take_of_lt (by omega), List.getElem?_drop, show m + (i - m) = i by omega]
    simp [ho]
  have hbk : ∀ i o, i < n → ops[i]? = some o → ∀ e ∈ o.after, Region.binds .any e = true → e.on < i := by
    intro i o hi ho e he hb
    have h2 := List.all_eq_true.1 hback i (List.mem_range.2 (by omega))
    rw [ho] at h2
    simp only [Option.map_some, Option.getD_some] at h2
    have h3 := Array.all_eq_true_iff_forall_mem.1 h2 e he
    simpa [hb] using h3
  have hloc : ∀ i (x y : Nat → Value) w', m ≤ i → i < n → x i = y i → (∀ k ∈ depOf m dd i, x k = y k) → phiX m more i x w' → phiX m more i y w' := by
    intro i x y w' h1 h2 h3 h4 h5
    unfold phiX at *
    rw [if_neg (by omega)] at *
    rw [← h3]
    exact MX.l _ x y _ _ (by rw [hdd i h1 h2]; exact h4) h5
  have main : ∀ (f : Nat) (listed : Array Bool) (x : Nat → Value) (w' : World), HeadInv .any ops n listed → (∀ i, i < m → listed.getD i true = true) → Below w.heap.size w w' →
      (∀ i, m ≤ i → i < n → listed.getD i true = true → phiX m more i x w') → (∀ i, m ≤ i → i < n → listed.getD i true = false → x i = orig ds a (i - m)) → unl listed n = f →
      wpAny P .any ops Q (f + (ops.size - n)) listed (frL ds m a x) w' := by
    intro f
    induction f with
    | zero =>
      intro listed x w' inv hlo hb hφ ho hu
      have hall := unl_zero listed n hu
      rw [listed_eq inv hall, Nat.zero_add]
      exact hend x w' hb (fun i h1 hi => hφ i h1 hi (hall i hi))
    | succ f ih =>
      intro listed x w' inv hlo hb hφ ho hu
      rw [show f + 1 + (ops.size - n) = (f + (ops.size - n)) + 1 by omega]
      obtain ⟨k, hk, hku, hkl⟩ := unl_least listed n (by omega)
      have hmk : m ≤ k := by
        rcases Nat.lt_or_ge k m with h | h
        · rw [hlo k h] at hku; cases hku
        · exact h
      have hsz := inv.size
      have both : ∀ j, j < listed.size → listed.getD j true = listed.getD j false := fun j hj => by simp [hj]
      have hkr : k ∈ Region.ready .any ops listed := by
        rw [mem_ready]
        have hok : ∃ o, ops[k]? = some o := ⟨ops[k]'(by omega), by simp⟩
        obtain ⟨o, hok⟩ := hok
        refine ⟨hku, o, hok, fun e he hbd => ?_⟩
        have h2 := hbk k o hk hok e he hbd
        have h3 := hkl e.on h2
        rw [both _ (by omega)] at h3
        exact h3
      refine ⟨fun h => (by rw [h] at hkr; cases hkr), fun i hi => ?_⟩
      obtain ⟨hun, o, hoi, hall⟩ := mem_ready.1 hi
      have hilt : i < ops.size := (Array.getElem?_eq_some_iff.1 hoi).1
      have hmi : m ≤ i := by
        rcases Nat.lt_or_ge i m with h | h
        · rw [hlo i h] at hun; cases hun
        · exact h
      have hin : i < n := by
        rcases htail with htail | ⟨hs, hc⟩
        · omega
        · rcases Nat.lt_or_ge i n with h | h
          · exact h
          · exact absurd hi (part_waits hmn hn hs hc inv _ k rfl hmk hk hku i h)
      have hlist : ∀ e ∈ o.after, Region.binds .any e = true → listed.getD e.on false = true := fun e he hbd => hall e he hbd
      have hpre : predsX (phiX m more) x w' o.after.toList := predsX_of _ fun e he hbd => by
        have he' : e ∈ o.after := by simpa using he
        have h1 := hlist e he' hbd
        have h2 := hbk i o hin hoi e he' hbd
        rcases Nat.lt_or_ge e.on m with h | h
        · unfold phiX; rw [if_pos h]; trivial
        refine hφ e.on h (by omega) ?_
        rw [both _ (by omega)]
        exact h1
      have hor : ∀ j, m ≤ j → j < n → Region.waitsFor .any ops j i = true → x j = orig ds a (j - m) := fun j hmj hj hw => by
        refine ho j hmj hj ?_
        obtain ⟨oj, hoj, e, he, hbd, hon⟩ := Region.waitsFor_spec hw
        cases hl : listed.getD j true with
        | false => rfl
        | true =>
          have hlt : j < listed.size := by omega
          have hl' : listed.getD j false = true := by rw [both _ hlt] at hl; exact hl
          have h5 := inv.closed j oj hoj hl' e he hbd
          rw [hon, getD_both hun] at h5
          cases h5
      have hdi : ∀ k ∈ depOf m dd i, k ≠ i := fun k hk => by
        have h1 := dep_listed hD hback hn inv.closed i hin (fun o' ho' e he hb' => by
          rw [hoi] at ho'
          cases ho'
          exact hlist e he hb') k hk
        intro h
        subst h
        rw [getD_both hun] at h1
        cases h1
      have hdj : ∀ j, m ≤ j → j < n → listed.getD j true = true → ∀ k ∈ depOf m dd j, k ≠ i := fun j h1 h2 h3 k hk => by
        have h4 := dep_listed hD hback hn inv.closed j h2 (fun o' ho' e he hb' => inv.closed j o' ho' (by rw [both _ (by omega)] at h3; exact h3) e he hb') k hk
        intro h
        subst h
        rw [getD_both hun] at h4
        cases h4
      have hstep := hsteps (i - m) o (by omega) (by rw [show m + (i - m) = i by omega]; exact hoi) x w' hb hpre (by rw [show m + (i - m) = i by omega]; exact hor)
        (wpAny P .any ops Q (f + (ops.size - n)) (listed.setIfInBounds i true)) (fun v w'' hv hg => by
        rw [← hdst i o hmi hin hoi, frL_put v ds m (i - m) a x hap (by omega), show m + (i - m) = i by omega]
        refine ih (listed.setIfInBounds i true) (upd x i v) w'' (inv.set hi hin) (fun j hj => by rw [getD_set_ne true (by omega)]; exact hlo j hj) (hb.trans (hg.mono hb.size)) ?_ ?_ ?_
        · intro j hmj hj hjl
          by_cases hji : j = i
          · subst hji
            unfold phiX
            rw [if_neg (by omega)]
            rw [show (upd x j v) j = v by simp [upd]]
            exact MX.l _ x (upd x j v) v w'' (fun k hk => by rw [hdd j hmj hj] at hk; simp [upd, hdi k hk]) hv
          · rw [getD_set_ne true (Ne.symm hji)] at hjl
            refine hloc j x (upd x i v) w'' hmj hj (by simp [upd, hji]) (fun k hk => by simp [upd, hdj j hmj hj hjl k hk]) ?_
            have hp := hφ j hmj hj hjl
            unfold phiX at *
            rw [if_neg (by omega)] at *
            exact MX.m _ x _ w' w'' hp hg
        · intro j hmj hj hjl
          have hji : j ≠ i := by
            intro h; subst h
            have hlt : j < listed.size := by omega
            simp [hlt] at hjl
          rw [getD_set_ne true (Ne.symm hji)] at hjl
          simpa [upd, hji] using ho j hmj hj hjl
        · have := unl_set listed i hun n hin
          omega)
      unfold wpOp
      simp only [hoi]
      split at hstep
      · rename_i hwt
        rw [if_pos hwt]
        exact .inl hstep
      · rename_i hwt
        rw [if_neg hwt]
        exact hstep
  have hget : ∀ i, i < ops.size → (headOf m ops.size).getD i true = decide (i < m) := by
    intro i hi
    simp [headOf, hi]
  have hgetf : ∀ i, i < ops.size → (headOf m ops.size).getD i false = decide (i < m) := by
    intro i hi
    simp [headOf, hi]
  have hszh : (headOf m ops.size).size = ops.size := by simp [headOf]
  have h0 := main (n - m) (headOf m ops.size) (fun i => orig ds a (i - m)) wc ⟨hszh, (fun j oj hj hl e he hb => by
      have hj2 : j < ops.size := (Array.getElem?_eq_some_iff.1 hj).1
      rw [hgetf j hj2] at hl
      have hl := of_decide_eq_true hl
      have h2 := hbk j oj (by omega) hj e he hb
      rw [hgetf e.on (by omega)]
      exact decide_eq_true (by omega)), (fun t ht ht' => by rw [hget t ht']; exact decide_eq_false (by omega))⟩
    (fun i hi => by rw [hget i (by omega)]; exact decide_eq_true hi) hw
    (fun i h1 h2 hl => by rw [hget i (by omega)] at hl; have := of_decide_eq_true hl; omega) (fun _ _ _ _ => rfl) (unl_headF _ _ _ hn)
  rw [frL_orig ds m a _ (fun k hk => by rw [show m + k - m = k by omega]) hap] at h0
  rwa [show n - m + (ops.size - n) = ops.size - m by omega] at h0

def phisX (l : List MX) (x : Nat → Value) (w : World) : Nat → Prop
  | i => match l with
    | [] => True
    | c :: r => c.p x (x i) w ∧ phisX r x w (i + 1)
theorem phisX_of (x : Nat → Value) (w : World) : ∀ (l : List MX) (i : Nat), (∀ k, k < l.length → ((l[k]?).getD MX.any).p x (x (i + k)) w) → phisX l x w i
  | [], _, _ => trivial
  | c :: r, i, h => ⟨by simpa using h 0 (by simp), phisX_of x w r (i + 1) fun k hk => by
      have := h (k + 1) (by simpa using hk)
      rw [show i + 1 + k = i + (k + 1) by omega]
      simpa using this⟩
/-- THE STEPS OF A PART, IN THE TEXT's ORDER. -/
def PX (P : Program) (ops : Array Oper) (Q : Exit → Act → World → Prop) (m n : Nat) (ds : List (Option Tmp)) (dd : List (List Nat)) (a : Act) (w : World) : Nat → List MX → List Oper → Prop
  | _, prev, [] => ∀ x w', Below w.heap.size w w' → phisX prev x w' m → wpAny P .any ops Q (ops.size - n) (headOf n ops.size) (frL ds m a x) w'
  | i, prev, o :: l => ∃ c : MX, c.d = depOf m dd i ∧ (∀ (x : Nat → Value) (w' : World), Below w.heap.size w w' → predsX (phiX m prev) x w' o.after.toList → (∀ j, m ≤ j → j < n → Region.waitsFor .any ops j i = true → x j = orig ds a (j - m)) →
      ∀ K : Act → World → Prop, (∀ v w'', c.p x v w'' → Below w'.heap.size w' w'' → K ((frL ds m a x).put o.dst v) w'') → if Region.wanted o (yielded ops (frL ds m a x).tmps) = true then Oper.wp P o (frL ds m a x) w' K Q else K ((frL ds m a x).put o.dst undef) w')
    ∧ PX P ops Q m n ds dd a w (i + 1) (prev ++ [c]) l
theorem phiX_append (m : Nat) (l r : List MX) (k : Nat) (h : k < m + l.length) : phiX m (l ++ r) k = phiX m l k := by
  funext v w
  unfold phiX
  by_cases hk : k < m
  · rw [if_pos hk, if_pos hk]
  · rw [if_neg hk, if_neg hk, List.getElem?_append_left (by omega)]
theorem PX_sound {m n : Nat} {ds : List (Option Tmp)} {dd : List (List Nat)} {a : Act} {w : World} : ∀ (rest : List Oper) (i : Nat) (prev : List MX), m + prev.length = i →
    (∀ k o, rest[k]? = some o → ∀ e ∈ o.after.toList, Region.binds .any e = true → e.on < i + k) → (∀ k, k < prev.length → ((prev[k]?).getD MX.any).d = depOf m dd (m + k)) → PX P ops Q m n ds dd a w i prev rest →
    ∃ more : List MX, more.length = rest.length ∧ (∀ k, k < (prev ++ more).length → (((prev ++ more)[k]?).getD MX.any).d = depOf m dd (m + k)) ∧
      (∀ k o, rest[k]? = some o → ∀ (x : Nat → Value) (w' : World), Below w.heap.size w w' → predsX (phiX m (prev ++ more)) x w' o.after.toList → (∀ j, m ≤ j → j < n → Region.waitsFor .any ops j (i + k) = true → x j = orig ds a (j - m)) →
      ∀ K : Act → World → Prop, (∀ v w'', (((prev ++ more)[i + k - m]?).getD MX.any).p x v w'' → Below w'.heap.size w' w'' → K ((frL ds m a x).put o.dst v) w'') → if Region.wanted o (yielded ops (frL ds m a x).tmps) = true then Oper.wp P o (frL ds m a x) w' K Q else K ((frL ds m a x).put o.dst undef) w')
      ∧ (∀ x w', Below w.heap.size w w' → phisX (prev ++ more) x w' m → wpAny P .any ops Q (ops.size - n) (headOf n ops.size) (frL ds m a x) w')
  | [], i, prev, _, _, hd, h => ⟨[], rfl, by rw [List.append_nil]; exact hd, fun k o hk => by simp at hk, by rw [List.append_nil]; exact h⟩
  | o :: l, i, prev, hl, hb, hd, ⟨c, hc, h1, h2⟩ => by
    obtain ⟨more, hm, hdm, hs, hend⟩ := PX_sound l (i + 1) (prev ++ [c]) (by simp; omega) (fun k o' ho' e he hbd => by
      have := hb (k + 1) o' (by simpa using ho') e he hbd
      omega) (fun k hk => by
        by_cases hk2 : k < prev.length
        · rw [List.getElem?_append_left hk2]; exact hd k hk2
        · have : k = prev.length := by simp at hk; omega
          subst this
          rw [hl]
          simpa using hc) h2
    have hap : prev ++ [c] ++ more = prev ++ c :: more := by simp
    refine ⟨c :: more, by simp [hm], by rw [← hap]; exact hdm, ?_, by rw [← hap]; exact hend⟩
    intro k o' hk x w' hw hpre ho K hK
    cases k with
    | zero =>
      simp at hk
      subst hk
      refine h1 x w' hw (predsX_congr _ (fun e he hbd => ?_) hpre) ho K (fun v w'' hv hg => hK v w'' ?_ hg)
      · have := hb 0 o (by simp) e he hbd
        exact phiX_append _ _ _ _ (by omega)
      · rw [show i + 0 - m = prev.length by omega]
        simpa using hv
    | succ k =>
      have e1 : i + 1 + k = i + (k + 1) := by omega
      have := hs k o' (by simpa using hk) x w' hw (by rw [hap]; exact hpre) (by rw [e1]; exact ho) K (by rw [hap, e1]; exact hK)
      exact this
/-- ONE PART. -/
theorem partX_steps {a : Act} {wc : World} (w : World) (m n : Nat) (ds : List (Option Tmp)) (dd : List (List Nat)) (hw : Below w.heap.size w wc) (hB : partB ops m n ds = true) (hD : depB ops m n dd = true) (h : PX P ops Q m n ds dd a w m [] ((ops.toList.drop m).take (n - m))) :
    wpAny P .any ops Q (ops.size - m) (headOf m ops.size) a wc := by
  have hB' := hB
  unfold partB at hB'
  simp only [Bool.and_eq_true, Bool.or_eq_true, decide_eq_true_eq] at hB'
  obtain ⟨⟨⟨⟨⟨hmn, hn⟩, hds⟩, hap⟩, hback⟩, htail⟩ := hB'
  have hgo : ∀ k o, ((ops.toList.drop m).take (n - m))[k]? = some o → k < n - m ∧ ops[m + k]? = some o := by
    intro k o hk
    have hlt : k < n - m := by
      rcases Nat.lt_or_ge k (n - m) with h | h
      · exact h
      · rw [List.getElem?_eq_none (by simp; omega)] at hk; cases hk
    rw [List.getElem?_take_of_lt hlt, List.getElem?_drop] at hk
    exact ⟨hlt, by simpa using hk⟩
  obtain ⟨more, hl, hdm, hs, hend⟩ := PX_sound _ m [] (by simp) (fun k o hk e he hbd => by
    obtain ⟨h1, h2⟩ := hgo k o hk
    have h3 := List.all_eq_true.1 hback (m + k) (List.mem_range.2 (by omega))
    rw [h2] at h3
    simp only [Option.map_some, Option.getD_some] at h3
    have h4 := Array.all_eq_true_iff_forall_mem.1 h3 e (by simpa using he)
    simpa [hbd] using h4) (fun k hk => by simp at hk) h
  rw [List.nil_append] at hs hend hdm
  have hlen : more.length = n - m := by rw [hl]; simp; omega
  refine partX_loose hw hB hD (more := more) (fun i h1 h2 => ?_) ?_ ?_
  · have := hdm (i - m) (by omega)
    rwa [show m + (i - m) = i by omega] at this
  · intro k o hk ho x w' hw' hpre hor K hK
    refine hs k o ?_ x w' hw' hpre hor K (by rw [show m + k - m = k by omega]; exact hK)
    rw [List.getElem?_take_of_lt hk, List.getElem?_drop]
    simpa using ho
  · intro x w' hb hp
    refine hend x w' hb (phisX_of x w' more m fun k hk => ?_)
    have := hp (m + k) (by omega) (by omega)
    unfold phiX at this
    rw [if_neg (by omega), show m + k - m = k by omega] at this
    exact this

section
variable {m n : Nat} {ds : List (Option Tmp)} {dd : List (List Nat)} {a : Act} {w : World} {i : Nat} {prev : List MX} {o : Oper} {l : List Oper}
/-- Whatever the relation. -/
theorem px_gen (c : MX) (hd : c.d = depOf m dd i) (h : ∀ (x : Nat → Value) (w' : World), Below w.heap.size w w' → predsX (phiX m prev) x w' o.after.toList →
      ∀ K : Act → World → Prop, (∀ v w'', c.p x v w'' → Below w'.heap.size w' w'' → K ((frL ds m a x).put o.dst v) w'') → Held (if Region.wanted o (yielded ops (frL ds m a x).tmps) = true then Oper.wp P o (frL ds m a x) w' K Q else K ((frL ds m a x).put o.dst undef) w'))
    (hr : PX P ops Q m n ds dd a w (i + 1) (prev ++ [c]) l) : PX P ops Q m n ds dd a w i prev (o :: l) := ⟨c, hd, fun x w' h1 h2 _ K hK => (h x w' h1 h2 K hK).out, hr⟩
/-- A value that is the same in every world. -/
theorem px_val {v : Value} (hd : depOf m dd i = []) (h : ∀ (x : Nat → Value) (w' : World), Below w.heap.size w w' → predsX (phiX m prev) x w' o.after.toList →
      ∀ K : Act → World → Prop, (∀ w'', Below w'.heap.size w' w'' → K ((frL ds m a x).put o.dst v) w'') → Held (if Region.wanted o (yielded ops (frL ds m a x).tmps) = true then Oper.wp P o (frL ds m a x) w' K Q else K ((frL ds m a x).put o.dst undef) w'))
    (hr : PX P ops Q m n ds dd a w (i + 1) (prev ++ [.val v]) l) : PX P ops Q m n ds dd a w i prev (o :: l) :=
  ⟨.val v, hd.symm, fun x w' h1 h2 _ K hK => (h x w' h1 h2 K (fun w'' hg => hK v w'' rfl hg)).out, hr⟩
end
end
end Go.Proofs.Ytpnlhkpibgngbaa
