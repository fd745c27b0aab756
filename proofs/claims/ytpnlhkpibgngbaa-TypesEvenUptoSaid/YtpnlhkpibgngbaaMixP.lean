/- The plain laws of TypesMix. -/
import Derived.Test.YtpnlhkpibgngbaaTyM1
import Derived.Test.YtpnlhkpibgngbaaTyM2
import Derived.Test.YtpnlhkpibgngbaaTyM3
import Derived.Test.YtpnlhkpibgngbaaMixI
import Derived.Test.YtpnlhkpibgngbaaAw
namespace Go.Proofs.Ytpnlhkpibgngbaa
open Go.RowKit

def T3.right (a : T3) : Prop := RightOf a.i a.n a.o
/-- A right item, whatever its occurrence. -/
structure T3.ri (a : T3) : Prop where
  lo : 0 ≤ a.i
  hi : a.i ≤ 13
  nm : a.n.toList.isEmpty = true ∨ a.i = 8 ∨ a.i = 9
theorem T3.right.ri {a : T3} (h : a.right) : a.ri := ⟨h.1, h.2.1, h.2.2.2.2⟩

theorem item2 {a b : T3} (ha : a.ri) (hb : b.ri) :
    (leastF a b).ri ∧ (leastF a b).i = (rleastF a b).i ∧ (leastF a b).n = (rleastF a b).n ∧ ((leastF a b).i == 0) = (a.i == 0 && b.i == 0) ∧ liesF a.i a.n b.i b.n = (a.i == 0 || rliesF a b) := by
  obtain ⟨i, hi⟩ : ∃ i : Nat, a.i = i := ⟨a.i.toNat, by have := ha.lo; omega⟩
  obtain ⟨j, hj⟩ : ∃ j : Nat, b.i = j := ⟨b.i.toNat, by have := hb.lo; omega⟩
  have h1 := ha.hi
  have h2 := hb.hi
  have hI := items
  rw [List.all_eq_true] at hI
  have hI := hI i (List.mem_range.2 (by omega))
  rw [List.all_eq_true] at hI
  have hI := hI j (List.mem_range.2 (by omega))
  rw [List.all_eq_true] at hI
  have hI := hI a.n.toList.isEmpty (by cases a.n.toList.isEmpty <;> simp)
  rw [List.all_eq_true] at hI
  have hI := hI b.n.toList.isEmpty (by cases b.n.toList.isEmpty <;> simp)
  rw [List.all_eq_true] at hI
  have hI := hI (b.n.toList == a.n.toList) (by cases (b.n.toList == a.n.toList) <;> simp)
  have hok : okN i j a.n.toList.isEmpty b.n.toList.isEmpty (b.n.toList == a.n.toList) = true := by
    have n1 := ha.nm
    have n2 := hb.nm
    rw [hi] at n1
    rw [hj] at n2
    simp only [okN, Bool.and_eq_true]
    refine ⟨⟨⟨?_, ?_⟩, ?_⟩, ?_⟩
    · rcases n1 with h | h | h <;> simp [h]
    · rcases n2 with h | h | h <;> simp [h]
    · cases hA : a.n.toList <;> cases hB : b.n.toList <;> simp
    · cases hA : a.n.toList <;> cases hB : b.n.toList <;> simp
  rw [hok] at hI
  simp only [Bool.not_true, Bool.false_or, Bool.and_eq_true, beq_iff_eq, decide_eq_true_eq, Bool.or_eq_true] at hI
  obtain ⟨⟨⟨⟨⟨⟨e1, e2⟩, e3⟩, e4⟩, e5⟩, e6⟩, e7⟩ := hI
  have L := leastF_i a b
  have R := rleastF_i a b
  have LI := liesF_eq a.i a.n b.i b.n
  have RI := rliesF_eq a b
  have e8 : (a.n.toList == b.n.toList) = (b.n.toList == a.n.toList) := BEq.comm
  rw [e8] at LI RI
  rw [hi, hj] at L R LI RI
  have nL : (leastF a b).n = pick3 (canon3 a.n.toList.isEmpty b.n.toList.isEmpty (b.n.toList == a.n.toList) (leastC i j a.n.toList.isEmpty b.n.toList.isEmpty (b.n.toList == a.n.toList)).2) a.n b.n := by rw [canon3_pick]; exact L.2
  have nR : (rleastF a b).n = pick3 (canon3 a.n.toList.isEmpty b.n.toList.isEmpty (b.n.toList == a.n.toList) (rleastB i j a.n.toList.isEmpty b.n.toList.isEmpty (b.n.toList == a.n.toList)).2) a.n b.n := by rw [canon3_pick]; exact R.2
  refine ⟨⟨by rw [L.1]; exact e3, by rw [L.1]; exact e4, ?_⟩, by rw [L.1, R.1, e1], by rw [nL, nR, e2], ?_, ?_⟩
  · rw [L.1]
    rcases e5 with (h | h) | h
    · left; rw [nL, h]; simp [pick3]
    · exact .inr (.inl h)
    · exact .inr (.inr h)
  · rw [L.1, hi, hj, e6]
  · rw [hi, hj, LI, RI, e7]

theorem p_e0 : eitherF [] = ⟨0, ⟨#[]⟩, 3⟩ := by decide +kernel
theorem p_j0 : joinF [] = ⟨0, ⟨#[]⟩, 3⟩ := by decide +kernel

theorem least_none (a : T3) (m : ByteArray) (o : Int) : leastF ⟨0, m, o⟩ a = a := rfl
/-- The occurrence alone. -/
def occS (l m : Int) : Int := if decide (1 ≤ l) && m == 1 then 0 else if decide (1 ≤ l) then 2 else if m == 1 then 1 else 3
theorem spanned_eq (t : T3) (l m : Int) : spannedF t l m = if m == 0 || t.i == 0 then ⟨0, ⟨#[]⟩, 3⟩ else ⟨t.i, t.n, occS l m⟩ := by
  unfold spannedF occS
  by_cases h : (m == 0 || t.i == 0) = true
  · rw [if_pos h, if_pos h]
  · rw [if_neg h, if_neg h]
    repeat' split
    all_goals rfl
def occC (a c : Bool) : Int := if a && c then 3 else if a then 1 else if c then 2 else 0
theorem of_eq (t : T3) (a b c : Bool) : ofF t a b c = if t.i == 0 || (!b && !c) then ⟨0, ⟨#[]⟩, 3⟩ else ⟨t.i, t.n, occC a c⟩ := by
  unfold ofF occC
  by_cases h : (t.i == 0 || (!b && !c)) = true
  · rw [if_pos h, if_pos h]
  · rw [if_neg h, if_neg h]
    repeat' split
    all_goals rfl
def lo (z : Bool) (o : Int) : Int := if z then 0 else if o = 0 then 1 else if o = 1 then 0 else if o = 2 then 1 else 0
def mx (z : Bool) (o : Int) : Int := if z then 0 else if o = 0 then 1 else if o = 1 then 1 else 2
theorem spanL_eq (i o : Int) : spanL i o = lo (i == 0) o := by simp [spanL, lo]
theorem spanM_eq (i o : Int) : spanM i o = mx (i == 0) o := by simp [spanM, mx]
def q0 (z : Bool) (o : Int) : Bool := z || (o == 1 || o == 3)
def q2 (z : Bool) (o : Int) : Bool := !z && (o == 2 || o == 3)
theorem cnt0_eq (i o : Int) : cnt0 i o = q0 (i == 0) o := rfl
theorem cnt1_eq (i o : Int) : cnt1 i o = !(i == 0) := rfl
theorem cnt2_eq (i o : Int) : cnt2 i o = q2 (i == 0) o := rfl

/-- What two answers say: none or not, and the occurrence. -/
def sp (z : Bool) (l m : Int) : Bool × Int := if m == 0 || z then (true, 3) else (false, occS l m)
def oc (z : Bool) (a b c : Bool) : Bool × Int := if z || (!b && !c) then (true, 3) else (false, occC a c)
theorem spanned_sp (t : T3) (l m : Int) : spannedF t l m = if (sp (t.i == 0) l m).1 then ⟨0, ⟨#[]⟩, 3⟩ else ⟨t.i, t.n, (sp (t.i == 0) l m).2⟩ := by
  rw [spanned_eq]
  unfold sp
  by_cases h : (m == 0 || t.i == 0) = true
  · rw [if_pos h, if_pos h]; rfl
  · rw [if_neg h, if_neg h]; rfl
theorem of_oc (t : T3) (a b c : Bool) : ofF t a b c = if (oc (t.i == 0) a b c).1 then ⟨0, ⟨#[]⟩, 3⟩ else ⟨t.i, t.n, (oc (t.i == 0) a b c).2⟩ := by
  rw [of_eq]
  unfold oc
  by_cases h : (t.i == 0 || (!b && !c)) = true
  · rw [if_pos h, if_pos h]; rfl
  · rw [if_neg h, if_neg h]; rfl

def all4 (f : Int → Bool) : Bool := f 0 && f 1 && f 2 && f 3
theorem all4_at {f : Int → Bool} (h : all4 f = true) {o : Int} (h0 : 0 ≤ o) (h3 : o ≤ 3) : f o = true := by
  simp only [all4, Bool.and_eq_true] at h
  have : o = 0 ∨ o = 1 ∨ o = 2 ∨ o = 3 := by omega
  rcases this with rfl | rfl | rfl | rfl
  · exact h.1.1.1
  · exact h.1.1.2
  · exact h.1.2
  · exact h.2
def allB (f : Bool → Bool) : Bool := f true && f false
theorem allB_at {f : Bool → Bool} (h : allB f = true) (z : Bool) : f z = true := by
  simp only [allB, Bool.and_eq_true] at h
  cases z
  · exact h.2
  · exact h.1

/-- two0's and two1's answer, told by its parts. -/
def oc0 (za : Bool) (oa : Int) (zb : Bool) (ob : Int) : Bool × Int := oc (za && zb) (q0 za oa || q0 zb ob) (!za || !zb) (q2 za oa || q2 zb ob)
def oc1 (za : Bool) (oa : Int) (zb : Bool) (ob : Int) : Bool × Int := oc (za && zb) (q0 za oa && q0 zb ob) ((q0 za oa && !zb) || (!za && q0 zb ob)) ((q2 za oa || q2 zb ob) || (!za && !zb))
def mk (r : Bool × Int) (t : T3) : T3 := if r.1 then ⟨0, ⟨#[]⟩, 3⟩ else ⟨t.i, t.n, r.2⟩
theorem two0_mk {a b : T3} (ha : a.ri) (hb : b.ri) : two0 a b = mk (oc0 (a.i == 0) a.o (b.i == 0) b.o) (leastF a b) := by
  obtain ⟨h1, h2, h3, h4, h5⟩ := item2 ha hb
  unfold two0 mk oc0
  rw [of_oc, ← h2, ← h3, h4]
  rfl
theorem two1_mk {a b : T3} (ha : a.ri) (hb : b.ri) : two1 a b = mk (oc1 (a.i == 0) a.o (b.i == 0) b.o) (leastF a b) := by
  obtain ⟨h1, h2, h3, h4, h5⟩ := item2 ha hb
  unfold two1 mk oc1
  rw [of_oc, ← h2, ← h3, h4]
  rfl
theorem leastF_congr {a a' : T3} (b : T3) (h1 : a.i = a'.i) (h2 : a.n = a'.n) : (leastF a b).i = (leastF a' b).i ∧ (leastF a b).n = (leastF a' b).n := by
  have L := leastF_i a b
  have L' := leastF_i a' b
  rw [h1, h2] at L
  exact ⟨L.1.trans L'.1.symm, L.2.trans L'.2.symm⟩
theorem mk_congr {r r' : Bool × Int} {t t' : T3} (h1 : r = r') (h2 : r.1 = false → t.i = t'.i ∧ t.n = t'.n) : mk r t = mk r' t' := by
  subst h1
  unfold mk
  cases h : r.1
  · rw [(h2 h).1, (h2 h).2]
  · rfl
theorem mk_ri {r : Bool × Int} {t : T3} (h : t.ri) : (mk r t).ri := by
  unfold mk
  split
  · exact ⟨by decide, by decide, .inl (by show (ByteArray.mk #[]).toList.isEmpty = true; rw [em_nil]; rfl)⟩
  · exact ⟨h.lo, h.hi, h.nm⟩

theorem liesF_self (k : Int) (s : ByteArray) : liesF k s k s = true := by
  simp [liesF, liesR, hit]
theorem least_self (a : T3) : leastF a a = a := by
  unfold leastF
  split
  · rfl
  · simp [leastR, liesF_self]
theorem least_zero {t : T3} (c : T3) (h : (t.i == 0) = true) : leastF t c = c := by
  unfold leastF
  rw [if_pos (by simpa using h)]

theorem occ_e1 : allB (fun z => all4 fun o => decide (oc0 z o z o = sp z (min 2 (lo z o)) (max 0 (mx z o)))) = true := by decide +kernel
theorem p_e1 (a : T3) (ha : a.right) : two0 a a = eitherF [a] := by
  rw [two0_mk ha.ri ha.ri, least_self]
  have hc := of_decide_eq_true (all4_at (allB_at occ_e1 (a.i == 0)) ha.2.2.1 ha.2.2.2.1)
  have e : eitherF [a] = mk (sp (a.i == 0) (min 2 (spanL a.i a.o)) (max 0 (spanM a.i a.o))) a := by
    simp only [eitherF, List.foldl, eitherS, least_none, spanned_sp, mk]
  rw [e, spanL_eq, spanM_eq, hc]

theorem occ_j1 : allB (fun z => all4 fun o => decide (oc1 true 3 z o = sp z (min (0 + lo z o) 2) (min (0 + mx z o) 2))) = true := by decide +kernel
theorem none_ri : (T3.mk 0 ⟨#[]⟩ 3).ri := ⟨by decide, by decide, .inl (by show (ByteArray.mk #[]).toList.isEmpty = true; rw [em_nil]; rfl)⟩
theorem p_j1 (a : T3) (ha : a.right) : two1 ⟨0, ⟨#[]⟩, 3⟩ a = joinF [a] := by
  rw [two1_mk none_ri ha.ri, least_none]
  have hc := of_decide_eq_true (all4_at (allB_at occ_j1 (a.i == 0)) ha.2.2.1 ha.2.2.2.1)
  have e : joinF [a] = mk (sp (a.i == 0) (min (0 + spanL a.i a.o) 2) (min (0 + spanM a.i a.o) 2)) a := by
    simp only [joinF, List.foldl, joinS, least_none, spanned_sp, mk]
  rw [e, spanL_eq, spanM_eq]
  show mk (oc1 true 3 (a.i == 0) a.o) a = _
  rw [hc]

theorem occ_z0 : allB (fun za => all4 fun oa => allB fun zb => all4 fun ob => (oc0 za oa zb ob).1 == (za && zb)) = true := by decide +kernel
theorem occ_z1 : allB (fun za => all4 fun oa => allB fun zb => all4 fun ob => (oc1 za oa zb ob).1 == (za && zb)) = true := by decide +kernel
theorem mk_zero {r : Bool × Int} {t : T3} (h : r.1 = (t.i == 0)) : ((mk r t).i == 0) = (t.i == 0) := by
  unfold mk
  cases hr : r.1
  · rfl
  · rw [← h, hr]; rfl
theorem mk_o {r : Bool × Int} {t : T3} : (mk r t).o = if r.1 then 3 else r.2 := by
  unfold mk
  split <;> rfl
theorem mk_least {r : Bool × Int} {t : T3} (c : T3) (h : r.1 = (t.i == 0)) : (leastF (mk r t) c).i = (leastF t c).i ∧ (leastF (mk r t) c).n = (leastF t c).n := by
  cases hr : r.1
  · exact leastF_congr c (by simp [mk, hr]) (by simp [mk, hr])
  · rw [least_zero c (by rw [mk_zero h, ← h, hr]), least_zero c (by rw [← h, hr])]
    exact ⟨rfl, rfl⟩

def oR (r : Bool × Int) : Int := if r.1 then 3 else r.2
theorem occ_e3 : allB (fun za => all4 fun oa => allB fun zb => all4 fun ob => allB fun zc => all4 fun o => decide (sp ((za && zb) && zc) (min (min (min 2 (lo za oa)) (lo zb ob)) (lo zc o)) (max (max (max 0 (mx za oa)) (mx zb ob)) (mx zc o)) = oc0 (za && zb) (oR (oc0 za oa zb ob)) zc o)) = true := by decide +kernel
theorem occ_j3 : allB (fun za => all4 fun oa => allB fun zb => all4 fun ob => allB fun zc => all4 fun o => decide (sp ((za && zb) && zc) (min (min (min (0 + lo za oa) 2 + lo zb ob) 2 + lo zc o) 2) (min (min (min (0 + mx za oa) 2 + mx zb ob) 2 + mx zc o) 2) = oc1 (za && zb) (oR (oc1 za oa zb ob)) zc o)) = true := by decide +kernel
theorem p_e3 (a b c : T3) (ha : a.right) (hb : b.right) (hc : c.right) : eitherF [a, b, c] = two0 (two0 a b) c := by
  obtain ⟨hL, -, -, hz, -⟩ := item2 ha.ri hb.ri
  obtain ⟨-, -, -, hz2, -⟩ := item2 hL hc.ri
  have h1 : (oc0 (a.i == 0) a.o (b.i == 0) b.o).1 = ((leastF a b).i == 0) := by
    rw [hz]
    simpa using all4_at (allB_at (all4_at (allB_at occ_z0 (a.i == 0)) ha.2.2.1 ha.2.2.2.1) (b.i == 0)) hb.2.2.1 hb.2.2.2.1
  have h3 := of_decide_eq_true (all4_at (allB_at (all4_at (allB_at (all4_at (allB_at occ_e3 (a.i == 0)) ha.2.2.1 ha.2.2.2.1) (b.i == 0)) hb.2.2.1 hb.2.2.2.1) (c.i == 0)) hc.2.2.1 hc.2.2.2.1)
  rw [two0_mk ha.ri hb.ri, two0_mk (mk_ri hL) hc.ri, mk_zero h1, mk_o]
  have e : eitherF [a, b, c] = mk (sp ((leastF (leastF a b) c).i == 0) (min (min (min 2 (spanL a.i a.o)) (spanL b.i b.o)) (spanL c.i c.o)) (max (max (max 0 (spanM a.i a.o)) (spanM b.i b.o)) (spanM c.i c.o))) (leastF (leastF a b) c) := by
    simp only [eitherF, List.foldl, eitherS, least_none, spanned_sp, mk]
  rw [e, hz2, hz]
  simp only [spanL_eq, spanM_eq]
  exact mk_congr h3 fun _ => ⟨(mk_least c h1).1.symm, (mk_least c h1).2.symm⟩
theorem p_j3 (a b c : T3) (ha : a.right) (hb : b.right) (hc : c.right) : joinF [a, b, c] = two1 (two1 a b) c := by
  obtain ⟨hL, -, -, hz, -⟩ := item2 ha.ri hb.ri
  obtain ⟨-, -, -, hz2, -⟩ := item2 hL hc.ri
  have h1 : (oc1 (a.i == 0) a.o (b.i == 0) b.o).1 = ((leastF a b).i == 0) := by
    rw [hz]
    simpa using all4_at (allB_at (all4_at (allB_at occ_z1 (a.i == 0)) ha.2.2.1 ha.2.2.2.1) (b.i == 0)) hb.2.2.1 hb.2.2.2.1
  have h3 := of_decide_eq_true (all4_at (allB_at (all4_at (allB_at (all4_at (allB_at occ_j3 (a.i == 0)) ha.2.2.1 ha.2.2.2.1) (b.i == 0)) hb.2.2.1 hb.2.2.2.1) (c.i == 0)) hc.2.2.1 hc.2.2.2.1)
  rw [two1_mk ha.ri hb.ri, two1_mk (mk_ri hL) hc.ri, mk_zero h1, mk_o]
  have e : joinF [a, b, c] = mk (sp ((leastF (leastF a b) c).i == 0) (min (min (min (0 + spanL a.i a.o) 2 + spanL b.i b.o) 2 + spanL c.i c.o) 2) (min (min (min (0 + spanM a.i a.o) 2 + spanM b.i b.o) 2 + spanM c.i c.o) 2)) (leastF (leastF a b) c) := by
    simp only [joinF, List.foldl, joinS, least_none, spanned_sp, mk]
  rw [e, hz2, hz]
  simp only [spanL_eq, spanM_eq]
  exact mk_congr h3 fun _ => ⟨(mk_least c h1).1.symm, (mk_least c h1).2.symm⟩

def oc2 (za : Bool) (oa : Int) (zb : Bool) (ob : Int) : Bool × Int := if za then (true, 3) else oc zb (q0 za oa || q0 zb ob) (!za && !zb) ((q2 za oa && (!zb || q2 zb ob)) || (q2 zb ob && (!za || q2 za oa)))
theorem occ_t : allB (fun za => all4 fun oa => allB fun zb => all4 fun ob => decide (sp zb (min (lo za oa * lo zb ob) 2) (min (mx za oa * mx zb ob) 2) = oc2 za oa zb ob)) = true := by decide +kernel
theorem p_t (a b : T3) (ha : a.right) (hb : b.right) : timesF a b = two2 a b := by
  have h3 := of_decide_eq_true (all4_at (allB_at (all4_at (allB_at occ_t (a.i == 0)) ha.2.2.1 ha.2.2.2.1) (b.i == 0)) hb.2.2.1 hb.2.2.2.1)
  have e : two2 a b = mk (oc2 (a.i == 0) a.o (b.i == 0) b.o) b := by
    unfold two2 oc2 mk
    by_cases h : (a.i == 0) = true
    · rw [if_pos h, if_pos h, of_oc]
      simp [oc, h]
    · rw [if_neg h, if_neg h, of_oc]
      rfl
  rw [e, ← h3, timesF, spanned_sp, mk]
  simp only [spanL_eq, spanM_eq]

def sL (za : Bool) (oa : Int) (zb : Bool) (ob : Int) (l : Bool) : Bool := decide (lo zb ob ≤ lo za oa) && decide (mx za oa ≤ mx zb ob) && (mx za oa == 0 || (za || l))
def sR (za : Bool) (oa : Int) (zb : Bool) (ob : Int) (l : Bool) : Bool := rsubB (q0 za oa) (!za) (q2 za oa) (q0 zb ob) (!zb) (q2 zb ob) za l
theorem occ_s : allB (fun za => all4 fun oa => allB fun zb => all4 fun ob => allB fun l => sL za oa zb ob l == sR za oa zb ob l) = true := by decide +kernel
theorem p_s (a b : T3) (ha : a.right) (hb : b.right) : subF a b = rsubF a b := by
  have h3 := allB_at (all4_at (allB_at (all4_at (allB_at occ_s (a.i == 0)) ha.2.2.1 ha.2.2.2.1) (b.i == 0)) hb.2.2.1 hb.2.2.2.1) (rliesF a b)
  have h4 := eq_of_beq h3
  unfold subF rsubF
  rw [(item2 ha.ri hb.ri).2.2.2.2]
  simp only [spanL_eq, spanM_eq]
  exact h4
end Go.Proofs.Ytpnlhkpibgngbaa
