/- Items apart from occurrences: what leastF, rleastF and liesF, rliesF ask of the names are three Booleans; then both sides agree by a look at all cases. -/
import Derived.Test.YtpnlhkpibgngbaaTyM0
import Derived.Test.YtpnlhkpibgngbaaRt
namespace Go.Proofs.Ytpnlhkpibgngbaa
open Go.RowKit

theorem em_nil : (ByteArray.mk #[]).toList = [] := by decide +kernel
theorem em_eq {s : ByteArray} (h : s.toList.isEmpty = true) : s = ⟨#[]⟩ := by
  have h1 : s.toList = [] := by simpa using h
  have h2 : s.data.toList = [] := by rw [← ByteArray.toList_eq s] at *; simpa using h1
  cases s with
  | mk d => simp at h2; simp [h2]
theorem tl_inj {s t : ByteArray} (h : s.toList = t.toList) : s = t := by
  have h2 : s.data.toList = t.data.toList := by simpa [ByteArray.toList_eq] using h
  cases s; cases t; simp at h2; simp [h2]

def upB (k : Int) (es : Bool) : Int := if es = false then k else if k = 1 then 2 else if 2 ≤ k ∧ k ≤ 5 then 6 else if 7 ≤ k ∧ k ≤ 11 then 12 else 13
def liesRB : Nat → Int → Bool → Int → Bool → Bool → Bool
  | 0, _, _, _, _, _ => false
  | m + 1, k, es, i, et, q => (k == i && (et || q)) || (k != 13 && liesRB m (upB k es) true i et et)
theorem liesR_eq : ∀ (m : Nat) (k : Int) (s : ByteArray) (i : Int) (t : ByteArray), liesR m k s i t = liesRB m k s.toList.isEmpty i t.toList.isEmpty (s.toList == t.toList)
  | 0, _, _, _, _ => rfl
  | m + 1, k, s, i, t => by
    have e1 : ((ByteArray.mk #[]).toList == t.toList) = t.toList.isEmpty := by rw [em_nil]; cases t.toList <;> rfl
    have e2 : (ByteArray.mk #[]).toList.isEmpty = true := by rw [em_nil]; rfl
    simp only [liesR, liesRB, hit, liesR_eq m, e1, e2]
    rfl
def liesB (k : Int) (es : Bool) (i : Int) (et q : Bool) : Bool := k == 0 || liesRB 6 k es i et q
theorem liesF_eq (k : Int) (s : ByteArray) (i : Int) (t : ByteArray) : liesF k s i t = liesB k s.toList.isEmpty i t.toList.isEmpty (s.toList == t.toList) := by
  simp only [liesF, liesB, liesR_eq]

def leastB : Nat → Int → Bool → Int → Bool → Bool → Int × Bool
  | 0, k, _, _, _, _ => (k, true)
  | m + 1, k, es, bi, eb, q => if liesB bi eb k es q then (k, true) else ((leastB m (upB k es) true bi eb eb).1, false)
theorem leastR_eq : ∀ (m : Nat) (k : Int) (s : ByteArray) (o : Int) (b : T3), leastR m k s o b = ⟨(leastB m k s.toList.isEmpty b.i b.n.toList.isEmpty (b.n.toList == s.toList)).1, if (leastB m k s.toList.isEmpty b.i b.n.toList.isEmpty (b.n.toList == s.toList)).2 then s else ⟨#[]⟩, o⟩
  | 0, _, _, _, _ => rfl
  | m + 1, k, s, o, b => by
    have e1 : (b.n.toList == (ByteArray.mk #[]).toList) = b.n.toList.isEmpty := by rw [em_nil]; cases b.n.toList <;> rfl
    have e2 : (ByteArray.mk #[]).toList.isEmpty = true := by rw [em_nil]; rfl
    have e3 : upK k s = upB k s.toList.isEmpty := rfl
    simp only [leastR, leastB, liesF_eq, leastR_eq m, e1, e2, e3]
    split
    · rfl
    · simp
def leastC (i j : Int) (ea eb q : Bool) : Int × Nat := if i = 0 then (j, 1) else ((leastB 6 i ea j eb q).1, if (leastB 6 i ea j eb q).2 then 0 else 2)
def pick3 (c : Nat) (s t : ByteArray) : ByteArray := if c = 0 then s else if c = 1 then t else ⟨#[]⟩
theorem leastF_i (a b : T3) : (leastF a b).i = (leastC a.i b.i a.n.toList.isEmpty b.n.toList.isEmpty (b.n.toList == a.n.toList)).1 ∧ (leastF a b).n = pick3 (leastC a.i b.i a.n.toList.isEmpty b.n.toList.isEmpty (b.n.toList == a.n.toList)).2 a.n b.n := by
  unfold leastF leastC
  split
  · simp [pick3]
  · rw [leastR_eq]
    refine ⟨rfl, ?_⟩
    simp only [pick3]
    split <;> simp

def rlB (i j : Int) (ex q : Bool) : Bool := rliesK i j && ((ex || i == 0) || (q && i == j))
theorem rliesF_eq (a b : T3) : rliesF a b = rlB a.i b.i b.n.toList.isEmpty (a.n.toList == b.n.toList) := rfl
def rleastB (i j : Int) (ea eb q : Bool) : Int × Nat :=
  if i == 0 then (j, 1) else if j == 0 then (i, 0) else if rlB i i ea true && rlB j i ea q then (i, 0) else if rlB i j eb q && rlB j j eb true then (j, 1)
  else if rlB i i true true && rlB j i true true then (i, 2) else if rlB i 2 true true && rlB j 2 true true then (2, 2) else if rlB i 6 true true && rlB j 6 true true then (6, 2) else if rlB i 12 true true && rlB j 12 true true then (12, 2) else (13, 2)
theorem rlB_true (i j : Int) (q : Bool) : rlB i j true q = rlB i j true true := by simp [rlB]
theorem rleastF_i (a b : T3) : (rleastF a b).i = (rleastB a.i b.i a.n.toList.isEmpty b.n.toList.isEmpty (b.n.toList == a.n.toList)).1 ∧ (rleastF a b).n = pick3 (rleastB a.i b.i a.n.toList.isEmpty b.n.toList.isEmpty (b.n.toList == a.n.toList)).2 a.n b.n := by
  have e2 : (ByteArray.mk #[]).toList.isEmpty = true := by rw [em_nil]; rfl
  have e3 : (a.n.toList == b.n.toList) = (b.n.toList == a.n.toList) := BEq.comm
  unfold rleastF rleastB
  by_cases h0 : (a.i == 0) = true
  · rw [if_pos h0, if_pos h0]; simp [pick3]
  rw [if_neg h0, if_neg h0]
  by_cases h1 : (b.i == 0) = true
  · rw [if_pos h1, if_pos h1]; simp [pick3]
  rw [if_neg h1, if_neg h1]
  simp only [candF, List.find?, rliesF_eq, e2, rlB_true _ _ (_ == _), beq_self_eq_true, e3]
  repeat' (first | (split <;> rename_i hh <;> simp only [hh, if_true, Bool.false_eq_true, if_false]) | (simp [pick3]; done))
  all_goals simp [pick3]

def canon3 (ea eb q : Bool) (c : Nat) : Nat := if c = 0 then (if ea then 2 else 0) else if c = 1 then (if eb then 2 else if q then 0 else 1) else 2
theorem canon3_pick (s t : ByteArray) (c : Nat) : pick3 (canon3 s.toList.isEmpty t.toList.isEmpty (t.toList == s.toList) c) s t = pick3 c s t := by
  unfold canon3
  by_cases h0 : c = 0
  · subst h0
    rw [if_pos rfl]
    by_cases h : s.toList.isEmpty = true
    · rw [if_pos h]; simp [pick3, em_eq h]
    · rw [if_neg h]
  rw [if_neg h0]
  by_cases h1 : c = 1
  · subst h1
    rw [if_pos rfl]
    by_cases h : t.toList.isEmpty = true
    · rw [if_pos h]; simp [pick3, em_eq h]
    · rw [if_neg h]
      by_cases h2 : (t.toList == s.toList) = true
      · rw [if_pos h2]
        have : t = s := tl_inj (by simpa using h2)
        simp [pick3, this]
      · rw [if_neg h2]
  · rw [if_neg h1]
    simp [pick3, h0, h1]

/-- The names' Booleans as they can be. -/
def okN (i j : Int) (ea eb q : Bool) : Bool := (ea || i == 8 || i == 9) && (eb || j == 8 || j == 9) && (!ea || q == eb) && (!eb || q == ea)
theorem items : (List.range 14).all (fun i => (List.range 14).all fun j => [true, false].all fun ea => [true, false].all fun eb => [true, false].all fun q =>
    !okN i j ea eb q || (let r := leastC i j ea eb q; let s := rleastB i j ea eb q;
      r.1 == s.1 && canon3 ea eb q r.2 == canon3 ea eb q s.2 && decide (0 ≤ r.1) && decide (r.1 ≤ 13) && (canon3 ea eb q r.2 == 2 || r.1 == 8 || r.1 == 9) && (r.1 == 0) == ((i : Int) == 0 && (j : Int) == 0) && liesB i ea j eb q == ((i : Int) == 0 || rlB i j eb q))) = true := by decide +kernel
end Go.Proofs.Ytpnlhkpibgngbaa
