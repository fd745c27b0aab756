/- Atomic values, plain: right, text, casts; the way there and back. -/
import Derived.Test.YtaoobajokhcimaaGreatDoorAtF
import Derived.Test.YtaoobajokhcimaaGreatDoorAtG
set_option linter.unusedSimpArgs false
set_option linter.unusedVariables false
namespace Go.Proofs.YtaoobajokhcimaaGreatDoor

/-- An atomic value: kind, number, scale, text, truth. -/
structure At where
  k : Int
  n : Int
  s : Int
  t : ByteArray
  b : Bool
def bs (l : List UInt8) : ByteArray := ⟨l.toArray⟩
theorem bs_list (l : List UInt8) : (bs l).data.toList = l := rfl
theorem bs_size (l : List UInt8) : (bs l).size = l.length := by unfold bs; simp [ByteArray.size]
theorem list_bs (t : ByteArray) : bs t.data.toList = t := by unfold bs; cases t; rfl
theorem bs_inj {l m : List UInt8} (h : bs l = bs m) : l = m := by
  have := congrArg (fun t : ByteArray => t.data.toList) h
  exact this
def zeroA : At := ⟨0, 0, 0, bs [], false⟩
def ofA (n : Int) : At := ⟨1, n, 0, bs [], false⟩
def numA (n s : Int) : At := ⟨2, n, s, bs [], false⟩
def textA (t : ByteArray) : At := ⟨3, 0, 0, t, false⟩
def truthA (b : Bool) : At := ⟨4, 0, 0, bs [], b⟩
def rawA (t : ByteArray) : At := ⟨5, 0, 0, t, false⟩
def trueS : List UInt8 := [116, 114, 117, 101]
def falseS : List UInt8 := [102, 97, 108, 115, 101]
/-- The text. -/
def textF (a : At) : ByteArray :=
  if a.k == 1 then bs (Lib.itoa a.n) else if a.k == 2 then bs (formatF a.n a.s.toNat) else if a.k == 3 || a.k == 5 then a.t else if a.k == 4 then bs (if a.b then trueS else falseS) else bs []
/-- Is it right? -/
def rightA (a : At) : Bool :=
  !((a.k != 1 && a.k != 2 && a.n != 0) || (a.k != 2 && a.s != 0) || (a.k != 4 && a.b)) && (if a.k == 3 || a.k == 5 then validF a.t else decide (a.t = bs []) && (a.k == 4 || ((a.k == 1 || a.k == 2) && rightF a.n a.s)))
inductive RA : At → Prop
  | int (n : Int) (h : Rt n 0) : RA (ofA n)
  | dec (n s : Int) (h : Rt n s) : RA (numA n s)
  | str (t : ByteArray) (h : validF t = true) : RA (textA t)
  | bool (b : Bool) : RA (truthA b)
  | raw (t : ByteArray) (h : validF t = true) : RA (rawA t)
theorem rightA_RA {a : At} (h : rightA a = true) : RA a := by
  obtain ⟨k, n, s, t, b⟩ := a
  unfold rightA at h
  simp only [Bool.and_eq_true, Bool.not_eq_true', Bool.or_eq_false_iff, Bool.and_eq_false_iff, bne_eq_false_iff_eq] at h
  obtain ⟨⟨⟨h1, h2⟩, h3⟩, h4⟩ := h
  by_cases e3 : k = 3 ∨ k = 5
  · have e : (k == 3 || k == 5) = true := by simpa using e3
    rw [if_pos e] at h4
    have hn : n = 0 := by omega
    have hs : s = 0 := by omega
    have hb : b = false := by rcases h3 with h3 | h3; · omega
                              · exact h3
    subst hn hs hb
    rcases e3 with rfl | rfl
    · exact RA.str t h4
    · exact RA.raw t h4
  · have e : (k == 3 || k == 5) = false := by simp; omega
    rw [e] at h4
    simp only [Bool.false_eq_true, if_false, Bool.and_eq_true, decide_eq_true_eq, Bool.or_eq_true, beq_iff_eq] at h4
    obtain ⟨rfl, h4⟩ := h4
    rcases h4 with rfl | ⟨rfl | rfl, h4⟩
    · have hn : n = 0 := by omega
      have hs : s = 0 := by omega
      subst hn hs
      exact RA.bool b
    · have hs : s = 0 := by omega
      have hb : b = false := by rcases h3 with h3 | h3; · omega
                                · exact h3
      subst hs hb
      exact RA.int n ((rightF_iff _ _).1 h4)
    · have hb : b = false := by rcases h3 with h3 | h3; · omega
                                · exact h3
      subst hb
      exact RA.dec n s ((rightF_iff _ _).1 h4)
theorem RA_rightA {a : At} (h : RA a) : rightA a = true := by
  cases h with
  | int n h => unfold rightA ofA; simp [(rightF_iff _ _).2 h]
  | dec n s h => unfold rightA numA; simp [(rightF_iff _ _).2 h]
  | str t h => unfold rightA textA; simp [h]
  | bool b => unfold rightA truthA; simp
  | raw t h => unfold rightA rawA; simp [h]

def truncF (n s : Int) : Int := n.tdiv (10 ^ s.toNat)
def trimT (t : ByteArray) : List UInt8 := Lib.trimS t.data.toList spS
def castE (e : Int) : Int := if e == 12 then 50 else e
def numberF (t : ByteArray) : Int × Int × Int := ((parseF (trimT t)).1, (parseF (trimT t)).2.1, castE (parseF (trimT t)).2.2)
def toIntF (a : At) : At × Int :=
  if a.k == 2 then (ofA (truncF a.n a.s), 0) else if a.k == 4 then (ofA (if a.b then 1 else 0), 0)
  else if a.t.data.toList.contains 46 then (zeroA, 50) else if (numberF a.t).2.2 == 0 then (ofA (numberF a.t).1, 0) else (zeroA, (numberF a.t).2.2)
def toDecF (a : At) : At × Int :=
  if a.k == 1 then (numA a.n 0, 0) else if a.k == 4 then (numA (if a.b then 1 else 0) 0, 0)
  else if (numberF a.t).2.2 == 0 then (numA (numberF a.t).1 (numberF a.t).2.1, 0) else (zeroA, (numberF a.t).2.2)
def toBoolF (a : At) : At × Int :=
  if a.k == 1 || a.k == 2 then (truthA (a.n != 0), 0)
  else if trimT a.t == trueS || trimT a.t == [49] then (truthA true, 0) else if trimT a.t == falseS || trimT a.t == [48] then (truthA false, 0) else (zeroA, 50)
def castF (a : At) (to : Int) : At × Int :=
  if decide (to < 1) || decide (6 ≤ to) then (zeroA, 2) else if a.k == to then (a, 0) else if to == 1 then toIntF a else if to == 2 then toDecF a else if to == 4 then toBoolF a
  else if to == 3 then (textA (textF a), 0) else (rawA (textF a), 0)
def numN (a : At) : Int × Int := if a.k == 1 then (a.n, 0) else if a.k == 2 then (a.n, a.s) else (0, 0)

theorem cast_text {a : At} (h : RA a) : castF a 3 = (textA (textF a), 0) := by
  cases h <;> rfl
theorem cast_raw {a : At} (h : RA a) : castF a 5 = (rawA (textF a), 0) := by
  cases h <;> rfl
theorem cast_own {a : At} (h : RA a) : castF a a.k = (a, 0) := by
  cases h <;> rfl
theorem castF1 {a : At} (h : (a.k == 1) = false) : castF a 1 = toIntF a := by
  unfold castF
  rw [h]
  rfl
theorem castF2 {a : At} (h : (a.k == 2) = false) : castF a 2 = toDecF a := by
  unfold castF
  rw [h]
  rfl
theorem castF4 {a : At} (h : (a.k == 4) = false) : castF a 4 = toBoolF a := by
  unfold castF
  rw [h]
  rfl
theorem parse_itoa {n : Int} (h : Rt n 0) : parseF (Lib.trimS (Lib.itoa n) spS) = (n, 0, 0) := by
  rw [itoa_format, format_trim]
  exact parse_format (s := 0) h
theorem parse_dec {n s : Int} (h : Rt n s) : parseF (Lib.trimS (formatF n s.toNat) spS) = (n, s, 0) := by
  have e : ((s.toNat : Nat) : Int) = s := by have := h.s0; omega
  rw [format_trim]
  have := parse_format (n := n) (s := s.toNat) (by rw [e]; exact h)
  rw [this, e]
theorem itoa_no (n : Int) : (Lib.itoa n).contains 46 = false := by
  cases e : (Lib.itoa n).contains 46
  · rfl
  · exact absurd rfl (itoa_point n 46 (by simpa using e))
theorem back_any {a : At} (h : RA a) (x : At) (hx : x = textA (textF a) ∨ x = rawA (textF a)) : castF x a.k = (a, 0) := by
  have hb : trimT (bs trueS) = trueS ∧ trimT (bs falseS) = falseS := by decide +kernel
  cases h with
  | int n h =>
    have p := parse_itoa h
    have q := itoa_no n
    rcases hx with rfl | rfl <;>
    · refine (castF1 rfl).trans ?_
      have e : numberF (bs (Lib.itoa n)) = (n, 0, 0) := by
        unfold numberF trimT
        rw [bs_list, p]
        rfl
      unfold toIntF
      show (if (Lib.itoa n).contains 46 then (zeroA, (50 : Int)) else if (numberF (bs (Lib.itoa n))).2.2 == 0 then (ofA (numberF (bs (Lib.itoa n))).1, 0) else (zeroA, (numberF (bs (Lib.itoa n))).2.2)) = _
      rw [q, e]
      rfl
  | dec n s h =>
    have p := parse_dec h
    rcases hx with rfl | rfl <;>
    · refine (castF2 rfl).trans ?_
      have e : numberF (bs (formatF n s.toNat)) = (n, s, 0) := by
        unfold numberF trimT
        rw [bs_list, p]
        rfl
      unfold toDecF
      show (if (numberF (bs (formatF n s.toNat))).2.2 == 0 then (numA (numberF (bs (formatF n s.toNat))).1 (numberF (bs (formatF n s.toNat))).2.1, (0 : Int)) else (zeroA, (numberF (bs (formatF n s.toNat))).2.2)) = _
      rw [e]
      rfl
  | str t h => rcases hx with rfl | rfl <;> rfl
  | bool b =>
    rcases hx with rfl | rfl <;>
    · refine (castF4 rfl).trans ?_
      unfold toBoolF
      cases b
      · show (if trimT (bs falseS) == trueS || trimT (bs falseS) == [49] then (truthA true, (0 : Int)) else if trimT (bs falseS) == falseS || trimT (bs falseS) == [48] then (truthA false, 0) else (zeroA, 50)) = _
        rw [hb.2]
        rfl
      · show (if trimT (bs trueS) == trueS || trimT (bs trueS) == [49] then (truthA true, (0 : Int)) else if trimT (bs trueS) == falseS || trimT (bs trueS) == [48] then (truthA false, 0) else (zeroA, 50)) = _
        rw [hb.1]
        rfl
  | raw t h => rcases hx with rfl | rfl <;> rfl
theorem back_text {a : At} (h : RA a) : castF (textA (textF a)) a.k = (a, 0) := back_any h _ (Or.inl rfl)
theorem back_raw {a : At} (h : RA a) : castF (rawA (textF a)) a.k = (a, 0) := back_any h _ (Or.inr rfl)
theorem itoa_len {n : Int} (h1 : -9223372036854775808 ≤ n) (h2 : n ≤ 9223372036854775807) : (Lib.itoa n).length ≤ 20 := by
  have h : ∀ (k m : Nat), m < 10 ^ (k + 1) → (Lib.decDigits m).length ≤ k + 1 := by
    intro k
    induction k with
    | zero =>
      intro m h
      rw [Lib.decDigits, dif_pos (by omega)]
      simp
    | succ k ih =>
      intro m h
      rw [Lib.decDigits]
      split
      · simp
      · rw [List.length_append]
        have := ih (m / 10) (by rw [Nat.pow_succ] at h; omega)
        simp
        omega
  unfold Lib.itoa
  split
  · have := h 18 n.natAbs (by omega)
    simp
    omega
  · have := h 18 n.toNat (by omega)
    omega
theorem format_len {n s : Int} (h : Rt n s) : (formatF n s.toNat).length ≤ 40 := by
  have hd : ∀ (k m : Nat), m < 10 ^ (k + 1) → (Lib.decDigits m).length ≤ k + 1 := by
    intro k
    induction k with
    | zero =>
      intro m h
      rw [Lib.decDigits, dif_pos (by omega)]
      simp
    | succ k ih =>
      intro m h
      rw [Lib.decDigits]
      split
      · simp
      · rw [List.length_append]
        have := ih (m / 10) (by rw [Nat.pow_succ] at h; omega)
        simp
        omega
  have h1 := hd 17 n.natAbs (by have := h.lo; have := h.hi; omega)
  have h9 := h.s9
  unfold formatF
  rw [List.length_append]
  have hp : (padS (Lib.decDigits n.natAbs) s.toNat).length ≤ 30 := by
    unfold padS
    split
    · rw [repeat_one, List.length_append, List.length_replicate]
      omega
    · omega
  split <;> split <;> simp <;> omega
theorem text_size {a : At} (h : RA a) : (textF a).size ≤ a.t.size + 40 := by
  cases h with
  | int n h =>
    show (bs (Lib.itoa n)).size ≤ _
    rw [bs_size]
    have := itoa_len (n := n) (by have := h.lo; omega) (by have := h.hi; omega)
    omega
  | dec n s h =>
    show (bs (formatF n s.toNat)).size ≤ _
    rw [bs_size]
    have := format_len h
    omega
  | str t h => show t.size ≤ t.size + 40; omega
  | bool b => show (bs (if b then trueS else falseS)).size ≤ _; rw [bs_size]; cases b <;> simp [trueS, falseS]
  | raw t h => show t.size ≤ t.size + 40; omega
end Go.Proofs.YtaoobajokhcimaaGreatDoor
