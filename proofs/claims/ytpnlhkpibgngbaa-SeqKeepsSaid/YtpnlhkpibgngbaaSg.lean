/- A region that draws its order, cut at operations for which all later ones wait: each part by itself. -/
import Derived.Test.YtpnlhkpibgngbaaLo
namespace Go.Proofs.Ytpnlhkpibgngbaa
open Go.RowKit

section
variable {P : Program} {ops : Array Oper} {Q : Exit → Act → World → Prop}

/-- The relations of the part from m on; of what stands before it nothing. -/
def phiO (m : Nat) (l : List MP) (i : Nat) (v : Value) (w : World) : Prop := if i < m then True else ((l[i - m]?).getD MP.any).p v w
/-- Where the part from m to n is done all before n is, and nothing behind n is ready before. -/
def partB (ops : Array Oper) (m n : Nat) (ds : List (Option Tmp)) : Bool :=
  decide (m ≤ n) && decide (n ≤ ops.size) && decide (ds = ((ops.toList.drop m).take (n - m)).map (·.dst)) && apartB ds &&
  backB ops &&
  (decide (n = ops.size) || (((List.range (n - 1 - m)).all fun k => (List.range (n - m)).any fun j => decide (k < j) && Region.waitsFor .any ops (m + j) (m + k)) &&
    ((List.range (ops.size - n)).all fun t => ((ops[n + t]?).map fun o => o.after.any fun e => Region.binds .any e && decide (n ≤ e.on + 1)).getD true)))

theorem part_waits {m n : Nat} {listed : Array Bool} (hmn : m ≤ n) (hn : n ≤ ops.size)
    (hs : ((List.range (n - 1 - m)).all fun k => (List.range (n - m)).any fun j => decide (k < j) && Region.waitsFor .any ops (m + j) (m + k)) = true)
    (hc : ((List.range (ops.size - n)).all fun t => ((ops[n + t]?).map fun o => o.after.any fun e => Region.binds .any e && decide (n ≤ e.on + 1)).getD true) = true)
    (inv : HeadInv .any ops n listed) : ∀ (d i : Nat), n - i = d → m ≤ i → i < n → listed.getD i true = false → ∀ t, n ≤ t → t ∉ Region.ready .any ops listed := by
  intro d
  induction d using Nat.strongRecOn with
  | _ d ih =>
    intro i hd hmi hi hun t ht hr
    obtain ⟨htu, ot, hot, hall⟩ := mem_ready.1 hr
    have htlt : t < ops.size := (Array.getElem?_eq_some_iff.1 hot).1
    by_cases hin : i = n - 1
    · have h1 := List.all_eq_true.1 hc (t - n) (List.mem_range.2 (by omega))
      rw [show n + (t - n) = t by omega, hot] at h1
      simp only [Option.map_some, Option.getD_some] at h1
      obtain ⟨e, he, hb⟩ := Array.any_eq_true'.1 h1
      simp only [Bool.and_eq_true, decide_eq_true_eq] at hb
      have h2 := hall e he hb.1
      have hlt : e.on < listed.size := by
        rcases Nat.lt_or_ge e.on listed.size with h | h
        · exact h
        · simp [Array.getElem?_eq_none h] at h2
      rw [inv.size] at hlt
      rcases Nat.lt_or_ge e.on n with h | h
      · have e3 : e.on = i := by omega
        rw [e3, getD_both hun] at h2
        cases h2
      · rw [getD_both (inv.tail e.on h hlt)] at h2
        cases h2
    · have h1 := List.all_eq_true.1 hs (i - m) (List.mem_range.2 (by omega))
      obtain ⟨j, hj, hj2⟩ := List.any_eq_true.1 h1
      simp only [Bool.and_eq_true, decide_eq_true_eq] at hj2
      rw [show m + (i - m) = i by omega] at hj2
      obtain ⟨oj, hoj, e, he, hb, hon⟩ := Region.waitsFor_spec hj2.2
      have hjl := List.mem_range.1 hj
      cases hl : listed.getD (m + j) false with
      | true =>
        have h2 := inv.closed (m + j) oj hoj hl e he hb
        rw [hon, getD_both hun] at h2
        cases h2
      | false =>
        have hjs : m + j < listed.size := by rw [inv.size]; omega
        exact ih (n - (m + j)) (by omega) (m + j) rfl (by omega) (by omega) (getD_in hjs hl) t ht hr

theorem unl_headF (N : Nat) : ∀ (m n : Nat), n ≤ N → unl (headOf m N) n = n - m
  | _, 0, _ => by simp [unl]
  | m, n + 1, hn => by
    simp only [unl]
    rw [unl_headF N m n (by omega)]
    have : (headOf m N).getD n true = decide (n < m) := by
      have : n < N := by omega
      simp [headOf, this]
    rw [this]
    by_cases h : n < m
    · simp [h]; omega
    · simp [h]; omega

theorem part_loose {m n : Nat} {ds : List (Option Tmp)} {φ : Nat → Value → World → Prop} {a : Act} {w wc : World} (hw : Below w.heap.size w wc) (hB : partB ops m n ds = true)
    (hmono : ∀ i v w1 w2, φ i v w1 → Below w1.heap.size w1 w2 → φ i v w2) (hlow : ∀ i v w, i < m → φ i v w)
    (hsteps : ∀ k o, k < n - m → ops[m + k]? = some o → ∀ (x : Nat → Value) (w' : World), Below w.heap.size w w' → preds φ x w' o.after.toList → (∀ j, m ≤ j → j < n → Region.waitsFor .any ops j (m + k) = true → x j = orig ds a (j - m)) →
      ∀ K : Act → World → Prop, (∀ v w'', φ (m + k) v w'' → Below w'.heap.size w' w'' → K ((frL ds m a x).put o.dst v) w'') → if Region.wanted o (yielded ops (frL ds m a x).tmps) = true then Oper.wp P o (frL ds m a x) w' K Q else K ((frL ds m a x).put o.dst undef) w')
    (hend : ∀ x w', Below w.heap.size w w' → (∀ i, m ≤ i → i < n → φ i (x i) w') → wpAny P .any ops Q (ops.size - n) (headOf n ops.size) (frL ds m a x) w') :
    wpAny P .any ops Q (ops.size - m) (headOf m ops.size) a wc := by
  unfold partB at hB
  simp only [Bool.and_eq_true, Bool.or_eq_true, decide_eq_true_eq] at hB
  obtain ⟨⟨⟨⟨⟨hmn, hn⟩, hds⟩, hap⟩, hback⟩, htail⟩ := hB
  have hlen : ds.length = n - m := by rw [hds]; simp; omega
  have hdst : ∀ i o, m ≤ i → i < n → ops[i]? = some o → (ds[i - m]?).getD none = o.dst := by
    intro i o h1 hi ho
    rw [hds, List.getElem?_map, List.getElem?_take_of_lt (by omega), List.getElem?_drop, show m + (i - m) = i by omega]
    simp [ho]
  have hbk : ∀ i o, i < n → ops[i]? = some o → ∀ e ∈ o.after, Region.binds .any e = true → e.on < i := by
    intro i o hi ho e he hb
    have h2 := List.all_eq_true.1 hback i (List.mem_range.2 (by omega))
    rw [ho] at h2
    simp only [Option.map_some, Option.getD_some] at h2
    have h3 := Array.all_eq_true_iff_forall_mem.1 h2 e he
    simpa [hb] using h3
  have main : ∀ (f : Nat) (listed : Array Bool) (x : Nat → Value) (w' : World), HeadInv .any ops n listed → (∀ i, i < m → listed.getD i true = true) → Below w.heap.size w w' →
      (∀ i, m ≤ i → i < n → listed.getD i true = true → φ i (x i) w') → (∀ i, m ≤ i → i < n → listed.getD i true = false → x i = orig ds a (i - m)) → unl listed n = f →
      wpAny P .any ops Q (f + (ops.size - n)) listed (frL ds m a x) w' := by
    intro f
    induction f with
    | zero =>
      intro listed x w' inv hlo hb hφ ho hu
      have hall := unl_zero listed n hu
      rw [listed_eq inv hall, Nat.zero_add]
      exact hend x w' hb (fun i h1 hi => hφ i h1 hi (hall i hi))
    | succ f ih =>
      intro listed x w' inv hlo hb hφ ho hu
      rw [show f + 1 + (ops.size - n) = (f + (ops.size - n)) + 1 by omega]
      obtain ⟨k, hk, hku, hkl⟩ := unl_least listed n (by omega)
      have hmk : m ≤ k := by
        rcases Nat.lt_or_ge k m with h | h
        · rw [hlo k h] at hku; cases hku
        · exact h
      have hsz := inv.size
      have hkr : k ∈ Region.ready .any ops listed := by
        rw [mem_ready]
        have hok : ∃ o, ops[k]? = some o := ⟨ops[k]'(by omega), by simp⟩
        obtain ⟨o, hok⟩ := hok
        refine ⟨hku, o, hok, fun e he hbd => ?_⟩
        have h2 := hbk k o hk hok e he hbd
        have h3 := hkl e.on h2
        have hlt : e.on < listed.size := by omega
        simp [hlt] at h3 ⊢
        exact h3
      refine ⟨fun h => (by rw [h] at hkr; cases hkr), fun i hi => ?_⟩
      obtain ⟨hun, o, hoi, hall⟩ := mem_ready.1 hi
      have hilt : i < ops.size := (Array.getElem?_eq_some_iff.1 hoi).1
      have hmi : m ≤ i := by
        rcases Nat.lt_or_ge i m with h | h
        · rw [hlo i h] at hun; cases hun
        · exact h
      have hin : i < n := by
        rcases htail with htail | ⟨hs, hc⟩
        · omega
        · rcases Nat.lt_or_ge i n with h | h
          · exact h
          · exact absurd hi (part_waits hmn hn hs hc inv _ k rfl hmk hk hku i h)
      have hpre : preds φ x w' o.after.toList := preds_of _ fun e he hbd => by
        have he' : e ∈ o.after := by simpa using he
        have h1 := hall e he' hbd
        have h2 := hbk i o hin hoi e he' hbd
        rcases Nat.lt_or_ge e.on m with h | h
        · exact hlow _ _ _ h
        refine hφ e.on h (by omega) ?_
        have hlt : e.on < listed.size := by omega
        simp [hlt] at h1 ⊢
        exact h1
      have hor : ∀ j, m ≤ j → j < n → Region.waitsFor .any ops j i = true → x j = orig ds a (j - m) := fun j hmj hj hw => by
        refine ho j hmj hj ?_
        obtain ⟨oj, hoj, e, he, hbd, hon⟩ := Region.waitsFor_spec hw
        cases hl : listed.getD j true with
        | false => rfl
        | true =>
          have hlt : j < listed.size := by omega
          have hl' : listed.getD j false = true := by simp [hlt] at hl ⊢; exact hl
          have h5 := inv.closed j oj hoj hl' e he hbd
          rw [hon, getD_both hun] at h5
          cases h5
      have hstep := hsteps (i - m) o (by omega) (by rw [show m + (i - m) = i by omega]; exact hoi) x w' hb hpre (by rw [show m + (i - m) = i by omega]; exact hor)
        (wpAny P .any ops Q (f + (ops.size - n)) (listed.setIfInBounds i true)) (fun v w'' hv hg => by
        rw [show m + (i - m) = i by omega] at hv
        rw [← hdst i o hmi hin hoi, frL_put v ds m (i - m) a x hap (by omega), show m + (i - m) = i by omega]
        refine ih (listed.setIfInBounds i true) (upd x i v) w'' (inv.set hi hin) (fun j hj => by rw [getD_set_ne true (by omega)]; exact hlo j hj) (hb.trans (hg.mono hb.size)) ?_ ?_ ?_
        · intro j hmj hj hjl
          by_cases hji : j = i
          · subst hji; simpa [upd] using hv
          · rw [getD_set_ne true (Ne.symm hji)] at hjl
            simpa [upd, hji] using hmono j _ _ _ (hφ j hmj hj hjl) hg
        · intro j hmj hj hjl
          have hji : j ≠ i := by
            intro h; subst h
            have hlt : j < listed.size := by omega
            simp [hlt] at hjl
          rw [getD_set_ne true (Ne.symm hji)] at hjl
          simpa [upd, hji] using ho j hmj hj hjl
        · have := unl_set listed i hun n hin
          omega)
      unfold wpOp
      simp only [hoi]
      split at hstep
      · rename_i hwt
        rw [if_pos hwt]
        exact .inl hstep
      · rename_i hwt
        rw [if_neg hwt]
        exact hstep
  have hget : ∀ i, i < ops.size → (headOf m ops.size).getD i true = decide (i < m) := by
    intro i hi
    simp [headOf, hi]
  have hgetf : ∀ i, i < ops.size → (headOf m ops.size).getD i false = decide (i < m) := by
    intro i hi
    simp [headOf, hi]
  have hszh : (headOf m ops.size).size = ops.size := by simp [headOf]
  have h0 := main (n - m) (headOf m ops.size) (fun i => orig ds a (i - m)) wc ⟨hszh, (fun j oj hj hl e he hb => by
      have hj2 : j < ops.size := (Array.getElem?_eq_some_iff.1 hj).1
      rw [hgetf j hj2] at hl
      have hl := of_decide_eq_true hl
      have h2 := hbk j oj (by omega) hj e he hb
      rw [hgetf e.on (by omega)]
      exact decide_eq_true (by omega)), (fun t ht ht' => by rw [hget t ht']; exact decide_eq_false (by omega))⟩
    (fun i hi => by rw [hget i (by omega)]; exact decide_eq_true hi) hw
    (fun i h1 h2 hl => by rw [hget i (by omega)] at hl; have := of_decide_eq_true hl; omega) (fun _ _ _ _ => rfl) (unl_headF _ _ _ hn)
  rw [frL_orig ds m a _ (fun k hk => by rw [show m + k - m = k by omega]) hap] at h0
  rwa [show n - m + (ops.size - n) = ops.size - m by omega] at h0
theorem headOf_zero (N : Nat) : headOf 0 N = Array.replicate N false := by
  apply Array.ext
  · simp [headOf]
  · intro i h1 h2
    simp [headOf]

/-- Into the region. -/
theorem region_parts {id : Nat} {a : Act} {w : World} (hm : P.follows .mixedOrders = true)
    (h : ∀ w1, Below w.heap.size w w1 → wpAny P .any ops Q (ops.size - 0) (headOf 0 ops.size) a w1) : (Code.region id ops true).wp P Q a w := by
  refine wp_region_any hm ?_
  rw [← headOf_zero]
  exact h _ (Below.refl _ _).drew
/-- Out of it, by a tail in the text's order. -/
theorem parts_tail {n : Nat} {a : Act} {w : World} (hB : Region.seqB .any ops (ops.size - n) n (headOf n ops.size) = true) (h : wpList P ops Q (ops.toList.drop n) a w) :
    wpAny P .any ops Q (ops.size - n) (headOf n ops.size) a w := by
  have hl : (ops.toList.drop n).length = ops.size - n := by simp
  rw [← hl] at hB ⊢
  exact wpAny_of_seq (ops.toList.drop n) n _ _ _ (fun j => by simp) hB h

/-- THE STEPS OF A PART, IN THE TEXT's ORDER. -/
def PS (P : Program) (ops : Array Oper) (Q : Exit → Act → World → Prop) (m n : Nat) (ds : List (Option Tmp)) (a : Act) (w : World) : Nat → List MP → List Oper → Prop
  | _, prev, [] => ∀ x w', Below w.heap.size w w' → phis prev x w' m → wpAny P .any ops Q (ops.size - n) (headOf n ops.size) (frL ds m a x) w'
  | i, prev, o :: l => ∃ c : MP, (∀ (x : Nat → Value) (w' : World), Below w.heap.size w w' → preds (phiO m prev) x w' o.after.toList → (∀ j, m ≤ j → j < n → Region.waitsFor .any ops j i = true → x j = orig ds a (j - m)) →
      ∀ K : Act → World → Prop, (∀ v w'', c.p v w'' → Below w'.heap.size w' w'' → K ((frL ds m a x).put o.dst v) w'') → if Region.wanted o (yielded ops (frL ds m a x).tmps) = true then Oper.wp P o (frL ds m a x) w' K Q else K ((frL ds m a x).put o.dst undef) w')
    ∧ PS P ops Q m n ds a w (i + 1) (prev ++ [c]) l
theorem phiO_append (m : Nat) (l r : List MP) (k : Nat) (h : k < m + l.length) : phiO m (l ++ r) k = phiO m l k := by
  funext v w
  unfold phiO
  by_cases hk : k < m
  · rw [if_pos hk, if_pos hk]
  · rw [if_neg hk, if_neg hk, List.getElem?_append_left (by omega)]
theorem PS_sound {m n : Nat} {ds : List (Option Tmp)} {a : Act} {w : World} : ∀ (rest : List Oper) (i : Nat) (prev : List MP), m + prev.length = i →
    (∀ k o, rest[k]? = some o → ∀ e ∈ o.after.toList, Region.binds .any e = true → e.on < i + k) → PS P ops Q m n ds a w i prev rest →
    ∃ more : List MP, more.length = rest.length ∧ (∀ k o, rest[k]? = some o → ∀ (x : Nat → Value) (w' : World), Below w.heap.size w w' → preds (phiO m (prev ++ more)) x w' o.after.toList → (∀ j, m ≤ j → j < n → Region.waitsFor .any ops j (i + k) = true → x j = orig ds a (j - m)) →
      ∀ K : Act → World → Prop, (∀ v w'', phiO m (prev ++ more) (i + k) v w'' → Below w'.heap.size w' w'' → K ((frL ds m a x).put o.dst v) w'') → if Region.wanted o (yielded ops (frL ds m a x).tmps) = true then Oper.wp P o (frL ds m a x) w' K Q else K ((frL ds m a x).put o.dst undef) w')
      ∧ (∀ x w', Below w.heap.size w w' → phis (prev ++ more) x w' m → wpAny P .any ops Q (ops.size - n) (headOf n ops.size) (frL ds m a x) w')
  | [], i, prev, _, _, h => ⟨[], rfl, fun k o hk => by simp at hk, by rw [List.append_nil]; exact h⟩
  | o :: l, i, prev, hl, hb, ⟨c, h1, h2⟩ => by
    obtain ⟨more, hm, hs, hend⟩ := PS_sound l (i + 1) (prev ++ [c]) (by simp; omega) (fun k o' ho' e he hbd => by
      have := hb (k + 1) o' (by simpa using ho') e he hbd
      omega) h2
    have hap : prev ++ [c] ++ more = prev ++ c :: more := by simp
    refine ⟨c :: more, by simp [hm], ?_, by rw [← hap]; exact hend⟩
    intro k o' hk x w' hw hpre ho K hK
    cases k with
    | zero =>
      simp at hk
      subst hk
      refine h1 x w' hw (preds_congr _ (fun e he hbd => ?_) hpre) ho K (fun v w'' hv hg => hK v w'' ?_ hg)
      · have := hb 0 o (by simp) e he hbd
        exact phiO_append _ _ _ _ (by omega)
      · unfold phiO
        rw [if_neg (by omega), show i + 0 - m = prev.length by omega]
        simpa using hv
    | succ k =>
      have e1 : i + 1 + k = i + (k + 1) := by omega
      have := hs k o' (by simpa using hk) x w' hw (by rw [hap]; exact hpre) (by rw [e1]; exact ho) K (by rw [hap, e1]; exact hK)
      exact this
/-- ONE PART. -/
theorem part_steps {a : Act} {wc : World} (w : World) (m n : Nat) (ds : List (Option Tmp)) (hw : Below w.heap.size w wc) (hB : partB ops m n ds = true) (h : PS P ops Q m n ds a w m [] ((ops.toList.drop m).take (n - m))) :
    wpAny P .any ops Q (ops.size - m) (headOf m ops.size) a wc := by
  have hB' := hB
  unfold partB at hB'
  simp only [Bool.and_eq_true, Bool.or_eq_true, decide_eq_true_eq] at hB'
  obtain ⟨⟨⟨⟨⟨hmn, hn⟩, hds⟩, hap⟩, hback⟩, htail⟩ := hB'
  have hgo : ∀ k o, ((ops.toList.drop m).take (n - m))[k]? = some o → k < n - m ∧ ops[m + k]? = some o := by
    intro k o hk
    have hlt : k < n - m := by
      rcases Nat.lt_or_ge k (n - m) with h | h
      · exact h
      · rw [List.getElem?_eq_none (by simp; omega)] at hk; cases hk
    rw [List.getElem?_take_of_lt hlt, List.getElem?_drop] at hk
    exact ⟨hlt, by simpa using hk⟩
  obtain ⟨more, hl, hs, hend⟩ := PS_sound _ m [] (by simp) (fun k o hk e he hbd => by
    obtain ⟨h1, h2⟩ := hgo k o hk
    have h3 := List.all_eq_true.1 hback (m + k) (List.mem_range.2 (by omega))
    rw [h2] at h3
    simp only [Option.map_some, Option.getD_some] at h3
    have h4 := Array.all_eq_true_iff_forall_mem.1 h3 e (by simpa using he)
    simpa [hbd] using h4) h
  rw [List.nil_append] at hs hend
  have hlen : more.length = n - m := by rw [hl]; simp; omega
  refine part_loose (φ := phiO m more) hw hB (fun i v w1 w2 hp hb => ?_) (fun i v w hi => by unfold phiO; rw [if_pos hi]; trivial) ?_ ?_
  · unfold phiO at *
    split
    · trivial
    · rename_i h0
      rw [if_neg h0] at hp
      exact (((more[i - m]?).getD MP.any).m v w1 w2 hp hb)
  · intro k o hk ho
    refine hs k o ?_
    rw [List.getElem?_take_of_lt hk, List.getElem?_drop]
    simpa using ho
  · intro x w' hb hp
    refine hend x w' hb (phis_of x w' more m fun k hk => ?_)
    have := hp (m + k) (by omega) (by omega)
    unfold phiO at this
    rw [if_neg (by omega), show m + k - m = k by omega] at this
    exact this

section
variable {m n : Nat} {ds : List (Option Tmp)} {a : Act} {w : World} {i : Nat} {prev : List MP} {o : Oper} {l : List Oper}
/-- Whatever the relation. -/
theorem ps_gen (c : MP) (h : ∀ (x : Nat → Value) (w' : World), Below w.heap.size w w' → preds (phiO m prev) x w' o.after.toList →
      ∀ K : Act → World → Prop, (∀ v w'', c.p v w'' → Below w'.heap.size w' w'' → K ((frL ds m a x).put o.dst v) w'') → Held (if Region.wanted o (yielded ops (frL ds m a x).tmps) = true then Oper.wp P o (frL ds m a x) w' K Q else K ((frL ds m a x).put o.dst undef) w'))
    (hr : PS P ops Q m n ds a w (i + 1) (prev ++ [c]) l) : PS P ops Q m n ds a w i prev (o :: l) := ⟨c, fun x w' h1 h2 _ K hK => (h x w' h1 h2 K hK).out, hr⟩
/-- A value that is the same in every world. -/
theorem ps_val {v : Value} (h : ∀ (x : Nat → Value) (w' : World), Below w.heap.size w w' → preds (phiO m prev) x w' o.after.toList →
      ∀ K : Act → World → Prop, (∀ w'', Below w'.heap.size w' w'' → K ((frL ds m a x).put o.dst v) w'') → Held (if Region.wanted o (yielded ops (frL ds m a x).tmps) = true then Oper.wp P o (frL ds m a x) w' K Q else K ((frL ds m a x).put o.dst undef) w'))
    (hr : PS P ops Q m n ds a w (i + 1) (prev ++ [.val v]) l) : PS P ops Q m n ds a w i prev (o :: l) :=
  ⟨.val v, fun x w' h1 h2 _ K hK => (h x w' h1 h2 K (fun w'' hg => hK v w'' rfl hg)).out, hr⟩
/-- .. where a slot is read that a later operation of the part writes. -/
theorem ps_old {v : Value} (h : ∀ (x : Nat → Value) (w' : World), Below w.heap.size w w' → preds (phiO m prev) x w' o.after.toList → (∀ j, m ≤ j → j < n → Region.waitsFor .any ops j i = true → x j = orig ds a (j - m)) →
      ∀ K : Act → World → Prop, (∀ w'', Below w'.heap.size w' w'' → K ((frL ds m a x).put o.dst v) w'') → Held (if Region.wanted o (yielded ops (frL ds m a x).tmps) = true then Oper.wp P o (frL ds m a x) w' K Q else K ((frL ds m a x).put o.dst undef) w'))
    (hr : PS P ops Q m n ds a w (i + 1) (prev ++ [.val v]) l) : PS P ops Q m n ds a w i prev (o :: l) :=
  ⟨.val v, fun x w' h1 h2 h3 K hK => (h x w' h1 h2 h3 K (fun w'' hg => hK v w'' rfl hg)).out, hr⟩
end
end
end Go.Proofs.Ytpnlhkpibgngbaa
