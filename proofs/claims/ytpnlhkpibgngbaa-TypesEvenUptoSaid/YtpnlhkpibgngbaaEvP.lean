/- The plain laws of TypesEven. -/
import Derived.Test.YtpnlhkpibgngbaaEvI
namespace Go.Proofs.Ytpnlhkpibgngbaa
open Go.RowKit

/-- A right item and an occurrence. -/
structure T3.r4 (a : T3) : Prop where
  it : a.ri
  o0 : 0 ≤ a.o
  o3 : a.o ≤ 3
theorem T3.right.r4 {a : T3} (h : a.right) : a.r4 := ⟨h.ri, h.2.2.1, h.2.2.2.1⟩
theorem mk_i {r : Bool × Int} {t : T3} (h : r.1 = (t.i == 0)) : (mk r t).i = t.i := by
  unfold mk
  cases hr : r.1
  · rfl
  · rw [hr] at h
    have := h.symm
    simp at this
    simp [this]

theorem occ_e2 : allB (fun za => all4 fun oa => allB fun zb => all4 fun ob => decide (sp (za && zb) (min (min 2 (lo za oa)) (lo zb ob)) (max (max 0 (mx za oa)) (mx zb ob)) = oc0 za oa zb ob)) = true := by decide +kernel
theorem occ_j2 : allB (fun za => all4 fun oa => allB fun zb => all4 fun ob => decide (sp (za && zb) (min (min (0 + lo za oa) 2 + lo zb ob) 2) (min (min (0 + mx za oa) 2 + mx zb ob) 2) = oc1 za oa zb ob)) = true := by decide +kernel
/-- Of two. -/
def M2 (t : Bool → Int → Bool → Int → Bool × Int) (a b : T3) : T3 := mk (t (a.i == 0) a.o (b.i == 0) b.o) (leastF a b)
theorem e_two {a b : T3} (ha : a.r4) (hb : b.r4) : eitherF [a, b] = M2 oc0 a b := by
  obtain ⟨-, -, -, hz, -⟩ := item2 ha.it hb.it
  have h3 := of_decide_eq_true (all4_at (allB_at (all4_at (allB_at occ_e2 (a.i == 0)) ha.o0 ha.o3) (b.i == 0)) hb.o0 hb.o3)
  have e : eitherF [a, b] = mk (sp ((leastF a b).i == 0) (min (min 2 (spanL a.i a.o)) (spanL b.i b.o)) (max (max 0 (spanM a.i a.o)) (spanM b.i b.o))) (leastF a b) := by
    simp only [eitherF, List.foldl, eitherS, least_none, spanned_sp, mk]
  rw [e, hz]
  simp only [spanL_eq, spanM_eq]
  rw [h3]
  rfl
theorem j_two {a b : T3} (ha : a.r4) (hb : b.r4) : joinF [a, b] = M2 oc1 a b := by
  obtain ⟨-, -, -, hz, -⟩ := item2 ha.it hb.it
  have h3 := of_decide_eq_true (all4_at (allB_at (all4_at (allB_at occ_j2 (a.i == 0)) ha.o0 ha.o3) (b.i == 0)) hb.o0 hb.o3)
  have e : joinF [a, b] = mk (sp ((leastF a b).i == 0) (min (min (0 + spanL a.i a.o) 2 + spanL b.i b.o) 2) (min (min (0 + spanM a.i a.o) 2 + spanM b.i b.o) 2)) (leastF a b) := by
    simp only [joinF, List.foldl, joinS, least_none, spanned_sp, mk]
  rw [e, hz]
  simp only [spanL_eq, spanM_eq]
  rw [h3]
  rfl

/-- What is asked of the two tables: none is right, the occurrence is one, the same both ways, by a third. -/
def tabB (t : Bool → Int → Bool → Int → Bool × Int) : Bool :=
  allB fun za => all4 fun oa => allB fun zb => all4 fun ob => (t za oa zb ob).1 == (za && zb) && decide (0 ≤ oR (t za oa zb ob)) && decide (oR (t za oa zb ob) ≤ 3) && decide (t za oa zb ob = t zb ob za oa) &&
    allB fun zc => all4 fun o => decide (t (za && zb) (oR (t za oa zb ob)) zc o = t za oa (zb && zc) (oR (t zb ob zc o)))
theorem tab_e : tabB oc0 = true := by decide +kernel
theorem tab_j : tabB oc1 = true := by decide +kernel
theorem tab_at {t : Bool → Int → Bool → Int → Bool × Int} (h : tabB t = true) (za : Bool) (oa : Int) (zb : Bool) (ob : Int) (h1 : 0 ≤ oa) (h2 : oa ≤ 3) (h3 : 0 ≤ ob) (h4 : ob ≤ 3) :
    (t za oa zb ob).1 = (za && zb) ∧ 0 ≤ oR (t za oa zb ob) ∧ oR (t za oa zb ob) ≤ 3 ∧ t za oa zb ob = t zb ob za oa ∧
    ∀ zc o, 0 ≤ o → o ≤ 3 → t (za && zb) (oR (t za oa zb ob)) zc o = t za oa (zb && zc) (oR (t zb ob zc o)) := by
  have h := all4_at (allB_at (all4_at (allB_at h za) h1 h2) zb) h3 h4
  simp only [Bool.and_eq_true, beq_iff_eq, decide_eq_true_eq] at h
  obtain ⟨⟨⟨⟨e1, e2⟩, e3⟩, e4⟩, e5⟩ := h
  exact ⟨e1, e2, e3, e4, fun zc o h5 h6 => of_decide_eq_true (all4_at (allB_at e5 zc) h5 h6)⟩
section
variable {t : Bool → Int → Bool → Int → Bool × Int}
theorem m_zero (h : tabB t = true) {a b : T3} (ha : a.r4) (hb : b.r4) : (t (a.i == 0) a.o (b.i == 0) b.o).1 = ((leastF a b).i == 0) := by
  rw [(item2 ha.it hb.it).2.2.2.1]
  exact (tab_at h _ _ _ _ ha.o0 ha.o3 hb.o0 hb.o3).1
theorem m_r4 (h : tabB t = true) {a b : T3} (ha : a.r4) (hb : b.r4) : (M2 t a b).r4 := by
  obtain ⟨e1, e2, e3, e4, e5⟩ := tab_at h (a.i == 0) a.o (b.i == 0) b.o ha.o0 ha.o3 hb.o0 hb.o3
  exact ⟨mk_ri (item2 ha.it hb.it).1, by unfold M2; rw [mk_o]; exact e2, by unfold M2; rw [mk_o]; exact e3⟩
theorem m_swap (h : tabB t = true) {a b : T3} (ha : a.r4) (hb : b.r4) : M2 t a b = M2 t b a :=
  mk_congr (tab_at h _ _ _ _ ha.o0 ha.o3 hb.o0 hb.o3).2.2.2.1 fun _ => least_swap ha.it hb.it
theorem m_iz (h : tabB t = true) {a b : T3} (ha : a.r4) (hb : b.r4) : ((M2 t a b).i == 0) = (a.i == 0 && b.i == 0) := by
  unfold M2
  rw [mk_zero (m_zero h ha hb), (item2 ha.it hb.it).2.2.2.1]
theorem m_third (h : tabB t = true) {a b c : T3} (ha : a.r4) (hb : b.r4) (hc : c.r4) : M2 t (M2 t a b) c = M2 t a (M2 t b c) := by
  have z1 := m_zero h ha hb
  have z2 := m_zero h hb hc
  have hab := m_r4 h ha hb
  have hbc := m_r4 h hb hc
  have i1 := m_iz h ha hb
  have i2 := m_iz h hb hc
  have o1 : (M2 t a b).o = oR (t (a.i == 0) a.o (b.i == 0) b.o) := by unfold M2; rw [mk_o]; rfl
  have o2 : (M2 t b c).o = oR (t (b.i == 0) b.o (c.i == 0) c.o) := by unfold M2; rw [mk_o]; rfl
  have e := (tab_at h (a.i == 0) a.o (b.i == 0) b.o ha.o0 ha.o3 hb.o0 hb.o3).2.2.2.2 (c.i == 0) c.o hc.o0 hc.o3
  have l1 : (leastF (M2 t a b) c).i = (leastF (leastF a b) c).i ∧ (leastF (M2 t a b) c).n = (leastF (leastF a b) c).n := mk_least c z1
  have l2 : (leastF a (M2 t b c)).i = (leastF a (leastF b c)).i ∧ (leastF a (M2 t b c)).n = (leastF a (leastF b c)).n := by
    have s1 := least_swap ha.it hbc.it
    have s2 := least_swap ha.it (item2 hb.it hc.it).1
    have s3 := mk_least (r := t (b.i == 0) b.o (c.i == 0) c.o) (t := leastF b c) a z2
    exact ⟨s1.1.trans (s3.1.trans s2.1.symm), s1.2.trans (s3.2.trans s2.2.symm)⟩
  have l3 := least_third ha.it hb.it hc.it
  show mk (t ((M2 t a b).i == 0) (M2 t a b).o (c.i == 0) c.o) (leastF (M2 t a b) c) = mk (t (a.i == 0) a.o ((M2 t b c).i == 0) (M2 t b c).o) (leastF a (M2 t b c))
  refine mk_congr ?_ fun _ => ⟨l1.1.trans (l3.1.trans l2.1.symm), l1.2.trans (l3.2.trans l2.2.symm)⟩
  rw [i1, o1, i2, o2]
  exact e
end

theorem ev_e_swap (a b : T3) (ha : a.right) (hb : b.right) : eitherF [b, a] = eitherF [a, b] := by
  rw [e_two ha.r4 hb.r4, e_two hb.r4 ha.r4]
  exact m_swap tab_e hb.r4 ha.r4
theorem ev_j_swap (a b : T3) (ha : a.right) (hb : b.right) : joinF [b, a] = joinF [a, b] := by
  rw [j_two ha.r4 hb.r4, j_two hb.r4 ha.r4]
  exact m_swap tab_j hb.r4 ha.r4
theorem ev_e_third (a b c : T3) (ha : a.right) (hb : b.right) (hc : c.right) : eitherF [a, eitherF [b, c]] = eitherF [eitherF [a, b], c] := by
  rw [e_two ha.r4 hb.r4, e_two hb.r4 hc.r4, e_two (m_r4 tab_e ha.r4 hb.r4) hc.r4, e_two ha.r4 (m_r4 tab_e hb.r4 hc.r4)]
  exact (m_third tab_e ha.r4 hb.r4 hc.r4).symm
theorem ev_j_third (a b c : T3) (ha : a.right) (hb : b.right) (hc : c.right) : joinF [a, joinF [b, c]] = joinF [joinF [a, b], c] := by
  rw [j_two ha.r4 hb.r4, j_two hb.r4 hc.r4, j_two (m_r4 tab_j ha.r4 hb.r4) hc.r4, j_two ha.r4 (m_r4 tab_j hb.r4 hc.r4)]
  exact (m_third tab_j ha.r4 hb.r4 hc.r4).symm

theorem two2_mk (a b : T3) : two2 a b = mk (oc2 (a.i == 0) a.o (b.i == 0) b.o) b := by
  unfold two2 oc2 mk
  by_cases h : (a.i == 0) = true
  · rw [if_pos h, if_pos h, of_oc]
    simp [oc, h]
  · rw [if_neg h, if_neg h, of_oc]
    rfl
theorem occ_self : allB (fun z => all4 fun o => decide (oc0 z o z o = (z, if z then 3 else o)) && decide (oc2 false 0 z o = (z, if z then 3 else o))) = true := by decide +kernel
/-- Mixed with itself. -/
theorem ev_self (a : T3) (ha : a.right) : eitherF [a, a] = if a.i == 0 then ⟨0, ⟨#[]⟩, 3⟩ else a := by
  have h := all4_at (allB_at occ_self (a.i == 0)) ha.2.2.1 ha.2.2.2.1
  simp only [Bool.and_eq_true, decide_eq_true_eq] at h
  rw [e_two ha.r4 ha.r4, M2, h.1, least_self]
  unfold mk
  cases a.i == 0 <;> rfl
theorem ev_times (a : T3) (ha : a.right) : timesF ⟨3, ⟨#[]⟩, 0⟩ a = eitherF [a, a] := by
  have h := all4_at (allB_at occ_self (a.i == 0)) ha.2.2.1 ha.2.2.2.1
  simp only [Bool.and_eq_true, decide_eq_true_eq] at h
  have h1 : (T3.mk 3 ⟨#[]⟩ 0).right := ⟨by decide, by decide, by decide, by decide, .inl (by show (ByteArray.mk #[]).toList.isEmpty = true; rw [em_nil]; rfl)⟩
  have e : two2 ⟨3, ⟨#[]⟩, 0⟩ a = mk (oc2 false 0 (a.i == 0) a.o) a := two2_mk ⟨3, ⟨#[]⟩, 0⟩ a
  rw [p_t _ _ h1 ha, e, h.2, ev_self a ha]
  unfold mk
  cases a.i == 0 <;> rfl
theorem ev_sub (a : T3) (ha : a.right) : subF a (eitherF [a, a]) = true ∧ subF (eitherF [a, a]) a = true := by
  have l0 := liesF_self a.i a.n
  have hs : subF a a = true := by simp [subF, l0]
  rw [ev_self a ha]
  cases h : a.i == 0
  · exact ⟨hs, hs⟩
  · have e : a.i = 0 := by simpa using h
    simp [subF, spanL, spanM, e]
/-- Itself, or of none the empty type. -/
theorem ev_is (a : T3) (ha : a.right) : eitherF [a, a] = a ∨ a.i = 0 ∧ eitherF [a, a] ≠ a ∧ eitherF [a, a] = ⟨0, ⟨#[]⟩, 3⟩ := by
  rw [ev_self a ha]
  cases h : a.i == 0
  · exact .inl rfl
  · have e : a.i = 0 := by simpa using h
    by_cases h2 : (⟨0, ⟨#[]⟩, 3⟩ : T3) = a
    · exact .inl h2
    · exact .inr ⟨e, h2, rfl⟩
end Go.Proofs.Ytpnlhkpibgngbaa
