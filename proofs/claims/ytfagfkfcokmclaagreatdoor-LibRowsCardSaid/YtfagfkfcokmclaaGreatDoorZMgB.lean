/- Texts put together: AtE, AtF, AtO, AtG, AtH, AtI, CpA. -/
import Derived.Test.YtfagfkfcokmclaaGreatDoorZMgA
import Derived.Lib.SlTrimSet
import Derived.Lib.ValidLaws
import Derived.Shelf.GgClosure.StringsIndexFunc
import Derived.Lib.Bytealg
/- Trimming at both ends: which end first is one. Plain. -/
section
set_option linter.unusedSimpArgs false
set_option linter.unusedVariables false
namespace Go.Proofs.YtfagfkfcokmclaaGreatDoor

theorem dw_cons {p : UInt8 → Bool} {l : List UInt8} {a : UInt8} {r : List UInt8} (h : l.dropWhile p = a :: r) : p a = false := by
  induction l with
  | nil => cases h
  | cons c l ih =>
    rw [List.dropWhile_cons] at h
    split at h
    · exact ih h
    · rename_i hc
      cases h
      simpa using hc
theorem tw_all' {p : UInt8 → Bool} (l : List UInt8) : (l.takeWhile p).all p = true := by
  induction l with
  | nil => rfl
  | cons c l ih =>
    rw [List.takeWhile_cons]
    split
    · rename_i hc
      rw [List.all_cons, hc, ih]
      rfl
    · rfl
theorem trim_comm (l cs : List UInt8) : Lib.trimLeftS (Lib.trimRightS l cs) cs = Lib.trimRightS (Lib.trimLeftS l cs) cs := by
  unfold Lib.trimLeftS Lib.trimRightS
  generalize (fun x => cs.contains x) = p
  have hsplit : l = l.takeWhile p ++ l.dropWhile p := (List.takeWhile_append_dropWhile).symm
  cases hA : l.dropWhile p with
  | nil =>
    have hall : l.all p = true := (dropWhile_nil p l).1 hA
    have hr : l.reverse.dropWhile p = [] := (dropWhile_nil p _).2 (by rw [List.all_reverse]; exact hall)
    rw [hr]
    rfl
  | cons a r =>
    have ha := dw_cons hA
    rw [hA] at hsplit
    have ht := tw_all' (p := p) l
    have hne : ((a :: r).reverse.dropWhile p) ≠ [] := fun h => by
      have := (dropWhile_nil p _).1 h
      rw [List.all_reverse, List.all_cons, ha] at this
      cases this
    have h1 : l.reverse.dropWhile p = (a :: r).reverse.dropWhile p ++ (l.takeWhile p).reverse := by
      conv => lhs; rw [hsplit]
      rw [List.reverse_append, List.dropWhile_append]
      have : ((a :: r).reverse.dropWhile p).isEmpty = false := by
        cases h : (a :: r).reverse.dropWhile p with
        | nil => exact absurd h hne
        | cons x y => rfl
      rw [this]
      rfl
    rw [h1, List.reverse_append, List.reverse_reverse, List.dropWhile_append, (dropWhile_nil p _).2 ht]
    simp only [List.isEmpty_nil, if_true]
    -- the right part begins with a
    have h2 : ∃ y, ((a :: r).reverse.dropWhile p).reverse = a :: y := by
      rw [List.reverse_cons, List.dropWhile_append]
      split
      · rw [List.dropWhile_cons, ha]
        exact ⟨[], rfl⟩
      · exact ⟨(r.reverse.dropWhile p).reverse, by rw [List.reverse_append]; rfl⟩
    obtain ⟨y, hy⟩ := h2
    rw [hy, List.dropWhile_cons, ha]
    rfl
end Go.Proofs.YtfagfkfcokmclaaGreatDoor
end

/- What a written number is made of; trimming it; its points. Plain. -/
section
set_option linter.unusedSimpArgs false
set_option linter.unusedVariables false
namespace Go.Proofs.YtfagfkfcokmclaaGreatDoor

def spS : List UInt8 := [9, 10, 13, 32]
theorem dw_none {p : UInt8 → Bool} {l : List UInt8} (h : ∀ x ∈ l, p x = false) : l.dropWhile p = l := by
  cases l with
  | nil => rfl
  | cons a r => rw [List.dropWhile_cons, h a (by simp)]; rfl
theorem trim_none {l cs : List UInt8} (h : ∀ x ∈ l, cs.contains x = false) : Lib.trimS l cs = l := by
  unfold Lib.trimS Lib.trimLeftS Lib.trimRightS
  rw [dw_none (l := l.reverse) (fun x hx => h x (by simpa using hx)), List.reverse_reverse, dw_none h]
/-- A letter of a number's text. -/
def numC (x : UInt8) : Bool := x == 45 || x == 46 || isD x
theorem numC_sp {x : UInt8} (h : numC x = true) : spS.contains x = false := by
  have : ∀ n : Fin 256, numC (UInt8.ofNat n.val) = true → spS.contains (UInt8.ofNat n.val) = false := by decide +kernel
  have h' := this ⟨x.toNat, x.toNat_lt⟩
  simp only [UInt8.ofNat_toNat] at h'
  exact h' h
theorem dec_all (m : Nat) : (Lib.decDigits m).all isD = true := by
  have h := pad_same m 0
  have h1 := decDigits_pos m
  unfold padS at h
  rw [if_neg (by omega)] at h
  rw [h]
  exact chs_all (padD_Dg (digs_spec m).2.1 0)
theorem pad_all (m s : Nat) : (padS (Lib.decDigits m) s).all isD = true := by
  rw [pad_same]
  exact chs_all (padD_Dg (digs_spec m).2.1 s)
theorem isD_numC {x : UInt8} (h : isD x = true) : numC x = true := by unfold numC; rw [h]; simp
theorem format_chars (n : Int) (s : Nat) : ∀ x ∈ formatF n s, numC x = true := by
  intro x hx
  unfold formatF at hx
  rw [List.mem_append] at hx
  rcases hx with hx | hx
  · split at hx
    · simp at hx; subst hx; rfl
    · cases hx
  · split at hx
    · exact isD_numC (List.all_eq_true.1 (dec_all n.natAbs) x hx)
    · simp only [List.mem_append, List.mem_singleton] at hx
      rcases hx with (hx | rfl) | hx
      · exact isD_numC (List.all_eq_true.1 (pad_all n.natAbs s) x (List.mem_of_mem_take hx))
      · rfl
      · exact isD_numC (List.all_eq_true.1 (pad_all n.natAbs s) x (List.mem_of_mem_drop hx))
theorem format_trim (n : Int) (s : Nat) : Lib.trimS (formatF n s) spS = formatF n s := trim_none fun x hx => numC_sp (format_chars n s x hx)
theorem itoa_format (n : Int) : Lib.itoa n = formatF n 0 := by
  unfold Lib.itoa formatF
  simp only [if_true]
  split
  · simp
  · rw [show n.toNat = n.natAbs by omega]; simp
theorem itoa_point (n : Int) : ∀ x ∈ Lib.itoa n, x ≠ 46 := by
  intro x hx
  unfold Lib.itoa at hx
  have hd : ∀ x ∈ Lib.decDigits n.natAbs, x ≠ 46 := fun x hx e => by
    have := List.all_eq_true.1 (dec_all n.natAbs) x hx
    subst e
    revert this
    decide
  split at hx
  · rcases List.mem_cons.1 hx with rfl | hx
    · decide
    · exact hd x hx
  · rw [show n.toNat = n.natAbs by omega] at hx
    exact hd x hx
end Go.Proofs.YtfagfkfcokmclaaGreatDoor
end

/- The reference's next, Points, XML, Valid as plain functions. -/
section
set_option linter.unusedSimpArgs false
set_option linter.unusedVariables false
namespace Go.Proofs.YtfagfkfcokmclaaGreatDoor

/-- A byte of a text, 0 where there is none. -/
def byteAt (t : ByteArray) (i : Nat) : Int := ((t.data[i]?.getD 0).toNat : Int)
theorem byteAt_bd (t : ByteArray) (i : Nat) : 0 ≤ byteAt t i ∧ byteAt t i ≤ 255 := by
  unfold byteAt
  have := (t.data[i]?.getD 0).toNat_lt
  omega
def finF (p least n : Int) : Int × Int := if p < least ∨ (55296 ≤ p ∧ p ≤ 57343) ∨ 1114111 < p then (0, 0) else (p, n)
/-- What the reference's 'next' answers, of the bytes and how many there are. -/
def nextG (z c d e f : Int) : Int × Int :=
  if c < 128 then (c, 1) else
  if c < 192 then (0, 0) else
  if c < 224 then (if z < 2 then (0, 0) else if d < 128 ∨ 191 < d then (0, 0) else finF (64 * (c - 192) + d - 128) 128 2) else
  if c < 240 then (if z < 3 then (0, 0) else if d < 128 ∨ 191 < d then (0, 0) else if e < 128 ∨ 191 < e then (0, 0) else finF (64 * (64 * (c - 224) + d - 128) + e - 128) 2048 3) else
  if c < 248 then (if z < 4 then (0, 0) else if d < 128 ∨ 191 < d then (0, 0) else if e < 128 ∨ 191 < e then (0, 0) else if f < 128 ∨ 191 < f then (0, 0) else finF (64 * (64 * (64 * (c - 240) + d - 128) + e - 128) + f - 128) 65536 4) else (0, 0)
def nextF (t : ByteArray) : Int × Int := nextG t.size (byteAt t 0) (byteAt t 1) (byteAt t 2) (byteAt t 3)
theorem nextF_bd (t : ByteArray) : 0 ≤ (nextF t).2 ∧ (nextF t).2 ≤ 4 ∧ ((nextF t).2 ≠ 0 → 0 < t.size → (nextF t).2 ≤ t.size ∧ 0 ≤ (nextF t).1 ∧ (nextF t).1 ≤ 1114111) := by
  have h0 := byteAt_bd t 0
  unfold nextF nextG finF
  generalize byteAt t 0 = c at *
  generalize byteAt t 1 = d
  generalize byteAt t 2 = e
  generalize byteAt t 3 = f
  (repeat' split) <;> simp <;> omega

/-- The numbers from a place on; none, if one is wrong. -/
def ptsR (t : ByteArray) : Nat → Nat → Option (List Int)
  | 0, _ => some []
  | k + 1, j => if j < t.size then (if (nextF (t.extract j t.size)).2 = 0 then none else (ptsR t k (j + (nextF (t.extract j t.size)).2.toNat)).map ((nextF (t.extract j t.size)).1 :: ·)) else some []
def pointsF (t : ByteArray) : Option (List Int) := ptsR t (t.size + 1) 0

def xmlF (p : Int) : Bool := (p == 9 || p == 10 || p == 13) || (decide (32 ≤ p ∧ p ≤ 55295) || decide (57344 ≤ p ∧ p ≤ 65533) || decide (65536 ≤ p ∧ p ≤ 1114111))
def validF (t : ByteArray) : Bool := match pointsF t with | none => false | some l => l.all xmlF
end Go.Proofs.YtfagfkfcokmclaaGreatDoor
end

/- The program's way to see a text's validity is the reference's. Plain. -/
section
set_option linter.unusedSimpArgs false
set_option linter.unusedVariables false
namespace Go.Proofs.YtfagfkfcokmclaaGreatDoor

/-- What 'next' answers, of the decoder's own answer. -/
def nextD (r : Nat × Nat) : Int × Int := if r.1 = 65533 ∧ r.2 = 1 then (0, 0) else ((r.1 : Int), (r.2 : Int))
theorem nextD_bad : nextD (65533, 1) = (0, 0) := rfl
set_option maxHeartbeats 4000000 in
theorem nextG_decode (n b0 b1 b2 b3 : Nat) (hn : 1 ≤ n) (h0 : b0 < 256) (h1 : b1 < 256) (h2 : b2 < 256) (h3 : b3 < 256) :
    nextG n b0 b1 b2 b3 = nextD (Lib.decodeN n b0 b1 b2 b3) := by
  unfold nextG finF Lib.decodeN
  (repeat' split) <;> first
    | (exfalso; omega)
    | rfl
    | (unfold nextD; rw [if_neg (by simp; try omega)]; apply Prod.ext <;> simp only <;> omega)

theorem byteAt_drop (s : ByteArray) (j i : Nat) (hj : j ≤ s.size) : byteAt (s.extract j s.size) i = (((s.data.toList.drop j).getD i 0).toNat : Int) := by
  unfold byteAt
  have e : (s.extract j s.size).data.toList = s.data.toList.drop j := by
    rw [ByteArray.data_extract, Array.toList_extract, List.extract_eq_take_drop]
    rw [List.take_of_length_le]
    rw [List.length_drop, Array.length_toList]
    exact Nat.le_refl _
  rw [← Array.getElem?_toList, e, List.getD_eq_getElem?_getD]
theorem nextF_drop (s : ByteArray) (j : Nat) (hj : j < s.size) : nextF (s.extract j s.size) = nextD (Lib.decodeL (s.data.toList.drop j)) := by
  unfold nextF
  rw [byteAt_drop s j 0 (by omega), byteAt_drop s j 1 (by omega), byteAt_drop s j 2 (by omega), byteAt_drop s j 3 (by omega), Lib.decodeL_N, ← nextG_decode]
  · congr 1
    simp
  · rw [List.length_drop]; have : s.data.toList.length = s.size := by simp
    omega
  all_goals exact UInt8.toNat_lt _
theorem decode_drop (s : ByteArray) (j : Nat) : Utf8.decode s j = Lib.decodeL (s.data.toList.drop j) := by
  rw [Lib.decode_N, Lib.decodeL_N, List.length_drop]
  simp only [List.getD_eq_getElem?_getD, List.getElem?_drop, Nat.add_zero]

/-- What char.Valid answers of one text. -/
def badR (r : Nat) : Bool := !xmlF (r : Int)
def cvalidF (s : ByteArray) : Bool := Lib.validD s.data.toList && !decide (0 ≤ Lib.idxFunc badR true s)

theorem pts_valid (s : ByteArray) : ∀ (k f j : Nat), s.size < k + j → s.size ≤ f + j → j ≤ s.size →
    (match ptsR s k j with | none => false | some l => l.all xmlF) = (Lib.validD (s.data.toList.drop j) && !decide (0 ≤ Lib.idxFuncFrom badR true s f j))
  | 0, _, j, h, _, h2 => by omega
  | k + 1, f, j, h, hf, h2 => by
    have hL : s.data.toList.length = s.size := by simp
    by_cases hj : j < s.size
    · obtain ⟨g, rfl⟩ : ∃ g, f = g + 1 := ⟨f - 1, by omega⟩
      have hne : s.data.toList.drop j ≠ [] := by
        intro h0
        have := congrArg List.length h0
        rw [List.length_drop, hL] at this
        simp at this
        omega
      simp only [ptsR, if_pos hj, Lib.idxFuncFrom, decode_drop, nextF_drop s j hj]
      rw [Lib.validD_step _ hne]
      have hw := Lib.decodeL_width (s.data.toList.drop j)
      have hq := (nextF_bd (s.extract j s.size)).2.2
      rw [nextF_drop s j hj] at hq
      have hsz : (s.extract j s.size).size = s.size - j := by simp
      rw [hsz] at hq
      generalize Lib.decodeL (s.data.toList.drop j) = r at *
      unfold nextD at *
      by_cases hbad : r.1 = 65533 ∧ r.2 = 1
      · simp [hbad]
      · rw [if_neg hbad] at hq ⊢
        rw [if_neg hbad]
        simp only at hq ⊢
        have hq2 := (hq (by omega) (by omega)).1
        rw [if_neg (by omega), Int.toNat_natCast]
        have ih := pts_valid s k g (j + r.2) (by omega) (by omega) (by omega)
        rw [List.drop_drop]
        have hX : badR r.1 = !xmlF (r.1 : Int) := rfl
        cases hx : xmlF (r.1 : Int)
        · rw [hx] at hX
          rw [hX]
          have : (0 : Int) ≤ (j : Int) := by omega
          simp only [Bool.not_false, if_true, decide_eq_true this, Bool.not_true, Bool.and_false]
          cases ptsR s k (j + r.2) with
          | none => rfl
          | some l => simp [hx]
        · rw [hx] at hX
          rw [hX]
          simp only [Bool.not_true, Bool.false_eq_true, if_false]
          rw [← ih]
          cases ptsR s k (j + r.2) with
          | none => rfl
          | some l => simp [hx]
    · have h0 : s.data.toList.drop j = [] := List.drop_eq_nil_of_le (by omega)
      rw [h0, Lib.idxFuncFrom_end _ _ _ _ _ hj]
      simp [ptsR, hj, Lib.validD_nil]

theorem cvalid_valid (s : ByteArray) : cvalidF s = validF s := by
  have h := pts_valid s (s.size + 1) s.size 0 (by omega) (by omega) (Nat.zero_le _)
  rw [List.drop_zero] at h
  unfold cvalidF validF pointsF Lib.idxFunc
  exact h.symm
end Go.Proofs.YtfagfkfcokmclaaGreatDoor
end

/- Atomic values, plain: right, text, casts; the way there and back. -/
section
set_option linter.unusedSimpArgs false
set_option linter.unusedVariables false
namespace Go.Proofs.YtfagfkfcokmclaaGreatDoor

/-- An atomic value: kind, number, scale, text, truth. -/
structure At where
  k : Int
  n : Int
  s : Int
  t : ByteArray
  b : Bool
def bs (l : List UInt8) : ByteArray := ⟨l.toArray⟩
theorem bs_list (l : List UInt8) : (bs l).data.toList = l := rfl
theorem bs_size (l : List UInt8) : (bs l).size = l.length := by unfold bs; simp [ByteArray.size]
theorem list_bs (t : ByteArray) : bs t.data.toList = t := by unfold bs; cases t; rfl
theorem bs_inj {l m : List UInt8} (h : bs l = bs m) : l = m := by
  have := congrArg (fun t : ByteArray => t.data.toList) h
  exact this
def zeroA : At := ⟨0, 0, 0, bs [], false⟩
def ofA (n : Int) : At := ⟨1, n, 0, bs [], false⟩
def numA (n s : Int) : At := ⟨2, n, s, bs [], false⟩
def textA (t : ByteArray) : At := ⟨3, 0, 0, t, false⟩
def truthA (b : Bool) : At := ⟨4, 0, 0, bs [], b⟩
def rawA (t : ByteArray) : At := ⟨5, 0, 0, t, false⟩
def trueS : List UInt8 := [116, 114, 117, 101]
def falseS : List UInt8 := [102, 97, 108, 115, 101]
/-- The text. -/
def textF (a : At) : ByteArray :=
  if a.k == 1 then bs (Lib.itoa a.n) else if a.k == 2 then bs (formatF a.n a.s.toNat) else if a.k == 3 || a.k == 5 then a.t else if a.k == 4 then bs (if a.b then trueS else falseS) else bs []
/-- Is it right? -/
def rightA (a : At) : Bool :=
  !((a.k != 1 && a.k != 2 && a.n != 0) || (a.k != 2 && a.s != 0) || (a.k != 4 && a.b)) && (if a.k == 3 || a.k == 5 then validF a.t else decide (a.t = bs []) && (a.k == 4 || ((a.k == 1 || a.k == 2) && rightF a.n a.s)))
inductive RA : At → Prop
  | int (n : Int) (h : Rt n 0) : RA (ofA n)
  | dec (n s : Int) (h : Rt n s) : RA (numA n s)
  | str (t : ByteArray) (h : validF t = true) : RA (textA t)
  | bool (b : Bool) : RA (truthA b)
  | raw (t : ByteArray) (h : validF t = true) : RA (rawA t)
theorem rightA_RA {a : At} (h : rightA a = true) : RA a := by
  obtain ⟨k, n, s, t, b⟩ := a
  unfold rightA at h
  simp only [Bool.and_eq_true, Bool.not_eq_true', Bool.or_eq_false_iff, Bool.and_eq_false_iff, bne_eq_false_iff_eq] at h
  obtain ⟨⟨⟨h1, h2⟩, h3⟩, h4⟩ := h
  by_cases e3 : k = 3 ∨ k = 5
  · have e : (k == 3 || k == 5) = true := by simpa using e3
    rw [if_pos e] at h4
    have hn : n = 0 := by omega
    have hs : s = 0 := by omega
    have hb : b = false := by rcases h3 with h3 | h3; · omega
                              · exact h3
    subst hn hs hb
    rcases e3 with rfl | rfl
    · exact RA.str t h4
    · exact RA.raw t h4
  · have e : (k == 3 || k == 5) = false := by simp; omega
    rw [e] at h4
    simp only [Bool.false_eq_true, if_false, Bool.and_eq_true, decide_eq_true_eq, Bool.or_eq_true, beq_iff_eq] at h4
    obtain ⟨rfl, h4⟩ := h4
    rcases h4 with rfl | ⟨rfl | rfl, h4⟩
    · have hn : n = 0 := by omega
      have hs : s = 0 := by omega
      subst hn hs
      exact RA.bool b
    · have hs : s = 0 := by omega
      have hb : b = false := by rcases h3 with h3 | h3; · omega
                                · exact h3
      subst hs hb
      exact RA.int n ((rightF_iff _ _).1 h4)
    · have hb : b = false := by rcases h3 with h3 | h3; · omega
                                · exact h3
      subst hb
      exact RA.dec n s ((rightF_iff _ _).1 h4)
theorem RA_rightA {a : At} (h : RA a) : rightA a = true := by
  cases h with
  | int n h => unfold rightA ofA; simp [(rightF_iff _ _).2 h]
  | dec n s h => unfold rightA numA; simp [(rightF_iff _ _).2 h]
  | str t h => unfold rightA textA; simp [h]
  | bool b => unfold rightA truthA; simp
  | raw t h => unfold rightA rawA; simp [h]

def truncF (n s : Int) : Int := n.tdiv (10 ^ s.toNat)
def trimT (t : ByteArray) : List UInt8 := Lib.trimS t.data.toList spS
def castE (e : Int) : Int := if e == 12 then 50 else e
def numberF (t : ByteArray) : Int × Int × Int := ((parseF (trimT t)).1, (parseF (trimT t)).2.1, castE (parseF (trimT t)).2.2)
def toIntF (a : At) : At × Int :=
  if a.k == 2 then (ofA (truncF a.n a.s), 0) else if a.k == 4 then (ofA (if a.b then 1 else 0), 0)
  else if a.t.data.toList.contains 46 then (zeroA, 50) else if (numberF a.t).2.2 == 0 then (ofA (numberF a.t).1, 0) else (zeroA, (numberF a.t).2.2)
def toDecF (a : At) : At × Int :=
  if a.k == 1 then (numA a.n 0, 0) else if a.k == 4 then (numA (if a.b then 1 else 0) 0, 0)
  else if (numberF a.t).2.2 == 0 then (numA (numberF a.t).1 (numberF a.t).2.1, 0) else (zeroA, (numberF a.t).2.2)
def toBoolF (a : At) : At × Int :=
  if a.k == 1 || a.k == 2 then (truthA (a.n != 0), 0)
  else if trimT a.t == trueS || trimT a.t == [49] then (truthA true, 0) else if trimT a.t == falseS || trimT a.t == [48] then (truthA false, 0) else (zeroA, 50)
def castF (a : At) (to : Int) : At × Int :=
  if decide (to < 1) || decide (6 ≤ to) then (zeroA, 2) else if a.k == to then (a, 0) else if to == 1 then toIntF a else if to == 2 then toDecF a else if to == 4 then toBoolF a
  else if to == 3 then (textA (textF a), 0) else (rawA (textF a), 0)
def numN (a : At) : Int × Int := if a.k == 1 then (a.n, 0) else if a.k == 2 then (a.n, a.s) else (0, 0)

theorem cast_text {a : At} (h : RA a) : castF a 3 = (textA (textF a), 0) := by
  cases h <;> rfl
theorem cast_raw {a : At} (h : RA a) : castF a 5 = (rawA (textF a), 0) := by
  cases h <;> rfl
theorem cast_own {a : At} (h : RA a) : castF a a.k = (a, 0) := by
  cases h <;> rfl
theorem castF1 {a : At} (h : (a.k == 1) = false) : castF a 1 = toIntF a := by
  unfold castF
  rw [h]
  rfl
theorem castF2 {a : At} (h : (a.k == 2) = false) : castF a 2 = toDecF a := by
  unfold castF
  rw [h]
  rfl
theorem castF4 {a : At} (h : (a.k == 4) = false) : castF a 4 = toBoolF a := by
  unfold castF
  rw [h]
  rfl
theorem parse_itoa {n : Int} (h : Rt n 0) : parseF (Lib.trimS (Lib.itoa n) spS) = (n, 0, 0) := by
  rw [itoa_format, format_trim]
  exact parse_format (s := 0) h
theorem parse_dec {n s : Int} (h : Rt n s) : parseF (Lib.trimS (formatF n s.toNat) spS) = (n, s, 0) := by
  have e : ((s.toNat : Nat) : Int) = s := by have := h.s0; omega
  rw [format_trim]
  have := parse_format (n := n) (s := s.toNat) (by rw [e]; exact h)
  rw [this, e]
theorem itoa_no (n : Int) : (Lib.itoa n).contains 46 = false := by
  cases e : (Lib.itoa n).contains 46
  · rfl
  · exact absurd rfl (itoa_point n 46 (by simpa using e))
theorem back_any {a : At} (h : RA a) (x : At) (hx : x = textA (textF a) ∨ x = rawA (textF a)) : castF x a.k = (a, 0) := by
  have hb : trimT (bs trueS) = trueS ∧ trimT (bs falseS) = falseS := by decide +kernel
  cases h with
  | int n h =>
    have p := parse_itoa h
    have q := itoa_no n
    rcases hx with rfl | rfl <;>
    · refine (castF1 rfl).trans ?_
      have e : numberF (bs (Lib.itoa n)) = (n, 0, 0) := by
        unfold numberF trimT
        rw [bs_list, p]
        rfl
      unfold toIntF
      show (if (Lib.itoa n).contains 46 then (zeroA, (50 : Int)) else if (numberF (bs (Lib.itoa n))).2.2 == 0 then (ofA (numberF (bs (Lib.itoa n))).1, 0) else (zeroA, (numberF (bs (Lib.itoa n))).2.2)) = _
      rw [q, e]
      rfl
  | dec n s h =>
    have p := parse_dec h
    rcases hx with rfl | rfl <;>
    · refine (castF2 rfl).trans ?_
      have e : numberF (bs (formatF n s.toNat)) = (n, s, 0) := by
        unfold numberF trimT
        rw [bs_list, p]
        rfl
      unfold toDecF
      show (if (numberF (bs (formatF n s.toNat))).2.2 == 0 then (numA (numberF (bs (formatF n s.toNat))).1 (numberF (bs (formatF n s.toNat))).2.1, (0 : Int)) else (zeroA, (numberF (bs (formatF n s.toNat))).2.2)) = _
      rw [e]
      rfl
  | str t h => rcases hx with rfl | rfl <;> rfl
  | bool b =>
    rcases hx with rfl | rfl <;>
    · refine (castF4 rfl).trans ?_
      unfold toBoolF
      cases b
      · show (if trimT (bs falseS) == trueS || trimT (bs falseS) == [49] then (truthA true, (0 : Int)) else if trimT (bs falseS) == falseS || trimT (bs falseS) == [48] then (truthA false, 0) else (zeroA, 50)) = _
        rw [hb.2]
        rfl
      · show (if trimT (bs trueS) == trueS || trimT (bs trueS) == [49] then (truthA true, (0 : Int)) else if trimT (bs trueS) == falseS || trimT (bs trueS) == [48] then (truthA false, 0) else (zeroA, 50)) = _
        rw [hb.1]
        rfl
  | raw t h => rcases hx with rfl | rfl <;> rfl
theorem back_text {a : At} (h : RA a) : castF (textA (textF a)) a.k = (a, 0) := back_any h _ (Or.inl rfl)
theorem back_raw {a : At} (h : RA a) : castF (rawA (textF a)) a.k = (a, 0) := back_any h _ (Or.inr rfl)
theorem itoa_len {n : Int} (h1 : -9223372036854775808 ≤ n) (h2 : n ≤ 9223372036854775807) : (Lib.itoa n).length ≤ 20 := by
  have h : ∀ (k m : Nat), m < 10 ^ (k + 1) → (Lib.decDigits m).length ≤ k + 1 := by
    intro k
    induction k with
    | zero =>
      intro m h
      rw [Lib.decDigits, dif_pos (by omega)]
      simp
    | succ k ih =>
      intro m h
      rw [Lib.decDigits]
      split
      · simp
      · rw [List.length_append]
        have := ih (m / 10) (by rw [Nat.pow_succ] at h; omega)
        simp
        omega
  unfold Lib.itoa
  split
  · have := h 18 n.natAbs (by omega)
    simp
    omega
  · have := h 18 n.toNat (by omega)
    omega
theorem format_len {n s : Int} (h : Rt n s) : (formatF n s.toNat).length ≤ 40 := by
  have hd : ∀ (k m : Nat), m < 10 ^ (k + 1) → (Lib.decDigits m).length ≤ k + 1 := by
    intro k
    induction k with
    | zero =>
      intro m h
      rw [Lib.decDigits, dif_pos (by omega)]
      simp
    | succ k ih =>
      intro m h
      rw [Lib.decDigits]
      split
      · simp
      · rw [List.length_append]
        have := ih (m / 10) (by rw [Nat.pow_succ] at h; omega)
        simp
        omega
  have h1 := hd 17 n.natAbs (by have := h.lo; have := h.hi; omega)
  have h9 := h.s9
  unfold formatF
  rw [List.length_append]
  have hp : (padS (Lib.decDigits n.natAbs) s.toNat).length ≤ 30 := by
    unfold padS
    split
    · rw [repeat_one, List.length_append, List.length_replicate]
      omega
    · omega
  split <;> split <;> simp <;> omega
theorem text_size {a : At} (h : RA a) : (textF a).size ≤ a.t.size + 40 := by
  cases h with
  | int n h =>
    show (bs (Lib.itoa n)).size ≤ _
    rw [bs_size]
    have := itoa_len (n := n) (by have := h.lo; omega) (by have := h.hi; omega)
    omega
  | dec n s h =>
    show (bs (formatF n s.toNat)).size ≤ _
    rw [bs_size]
    have := format_len h
    omega
  | str t h => show t.size ≤ t.size + 40; omega
  | bool b => show (bs (if b then trueS else falseS)).size ≤ _; rw [bs_size]; cases b <;> simp [trueS, falseS]
  | raw t h => show t.size ≤ t.size + 40; omega
end Go.Proofs.YtfagfkfcokmclaaGreatDoor
end

/- Atomic values, plain: whole parts, texts' validity, what a cast gives is right. -/
section
set_option linter.unusedSimpArgs false
set_option linter.unusedVariables false
namespace Go.Proofs.YtfagfkfcokmclaaGreatDoor

theorem trunc0 (n : Int) : truncF n 0 = n := by unfold truncF; simp
theorem tdiv_abs (n d : Int) (hd : 1 ≤ d) : (n.tdiv d).natAbs ≤ n.natAbs := by
  rw [Int.natAbs_tdiv]
  exact Nat.div_le_self _ _
theorem trunc_Rt {n s : Int} (h : Rt n s) : Rt (truncF n s) 0 := by
  have h1 := tdiv_abs n (10 ^ s.toNat) (by have := pow10_pos s.toNat; omega)
  have := h.lo
  have := h.hi
  unfold truncF
  exact Rt.whole (by omega) (by omega)
/-- The way cut short is the floor or the ceiling. -/
theorem trunc_ceil {n s : Int} (h : n < 0) : ceilF n s = truncF n s := by
  unfold ceilF truncF
  have h0 : n.tmod (10 ^ s.toNat) ≤ 0 := by
    have := Int.tmod_nonneg (a := -n) (10 ^ s.toNat) (by omega)
    rw [Int.neg_tmod] at this
    omega
  have e : decide (0 < n.tmod (10 ^ s.toNat)) = false := by simp; omega
  rw [e]
  rfl
theorem trunc_floor {n s : Int} (h : 0 ≤ n) : floorF n s = truncF n s := by
  unfold floorF truncF
  have h0 := Int.tmod_nonneg (a := n) (10 ^ s.toNat) h
  have e : decide (n.tmod (10 ^ s.toNat) < 0) = false := by simp; omega
  rw [e]
  rfl
theorem cmpF_lt {n s k t : Int} (ha : Rt n s) (hb : Rt k t) (h : val9 n s < val9 k t) : cmpF n s k t = -1 := by
  rw [cmpF_val ha hb, if_neg (by omega), if_pos h]
theorem cmpF_gt {n s k t : Int} (ha : Rt n s) (hb : Rt k t) (h : val9 k t < val9 n s) : cmpF n s k t = 1 := by
  rw [cmpF_val ha hb, if_neg (by omega), if_neg (by omega)]
theorem val9_sign {u v : Int} : (val9 u v = 0 ↔ u = 0) ∧ (0 < val9 u v ↔ 0 < u) := by
  unfold val9
  have hp := pow10_pos (9 - v).toNat
  refine ⟨⟨fun h => ?_, fun h => by rw [h]; simp⟩, ⟨fun h => ?_, fun h => Int.mul_pos h hp⟩⟩
  · rcases Int.mul_eq_zero.1 h with h | h
    · exact h
    · omega
  · rcases (show 0 < u ∨ u ≤ 0 by omega) with h' | h'
    · exact h'
    · have := Int.mul_nonpos_of_nonpos_of_nonneg h' (Int.le_of_lt hp)
      omega
/-- The whole part is within one of the number, on its side of nought. -/
theorem trunc_near {n s : Int} (h : Rt n s) : ∃ u v, subF n s (truncF n s) 0 = (u, v, 0) ∧ Rt u v ∧ cmpF u v 1 0 = -1 ∧ cmpF u v (-1) 0 = 1 ∧ (u = 0 ∨ (decide (0 < u) = decide (0 < n))) := by
  have hp := pow10_pos s.toNat
  have hT := trunc_Rt h
  have e1 := Int.mul_tdiv_add_tmod n (10 ^ s.toNat)
  have hv : val9 n s - val9 (truncF n s) 0 = n.tmod (10 ^ s.toNat) * 10 ^ (9 - s).toNat := by
    unfold val9 truncF
    have e9 : (10 : Int) ^ (9 - 0 : Int).toNat = 10 ^ s.toNat * 10 ^ (9 - s).toNat := by
      rw [← Int.pow_add]
      congr 1
      have := h.s0
      have := h.s9
      omega
    rw [e9]
    generalize n.tdiv (10 ^ s.toNat) = q at *
    generalize n.tmod (10 ^ s.toNat) = r at *
    generalize (10 : Int) ^ (9 - s).toNat = y at *
    generalize (10 : Int) ^ s.toNat = x at *
    subst e1
    rw [Int.add_mul, Int.mul_comm x q, Int.mul_assoc]
    omega
  have e9 : (10 : Int) ^ s.toNat * 10 ^ (9 - s).toNat = 1000000000 := by
    rw [← Int.pow_add, show s.toNat + (9 - s).toNat = 9 by have := h.s0; have := h.s9; omega]
    decide
  have hlt := Int.tmod_lt_of_pos n hp
  have hgt := Int.lt_tmod_of_pos n hp
  have hq := pow10_pos (9 - s).toNat
  have b1 : n.tmod (10 ^ s.toNat) * 10 ^ (9 - s).toNat < 1000000000 := by
    rw [← e9]
    exact Int.mul_lt_mul_of_pos_right hlt hq
  have b2 : -1000000000 < n.tmod (10 ^ s.toNat) * 10 ^ (9 - s).toNat := by
    rw [← e9, ← Int.neg_mul]
    exact Int.mul_lt_mul_of_pos_right hgt hq
  obtain ⟨u, v, hs, hR, hV⟩ := sub_near h hT (by rw [hv]; omega)
  rw [hv] at hV
  have v1 : val9 1 0 = 1000000000 := by decide
  have v2 : val9 (-1) 0 = -1000000000 := by decide
  refine ⟨u, v, hs, hR, cmpF_lt hR (Rt.whole (by omega) (by omega)) (by rw [hV, v1]; exact b1), cmpF_gt hR (Rt.whole (by omega) (by omega)) (by rw [hV, v2]; exact b2), ?_⟩
  obtain ⟨s1, s2⟩ := val9_sign (u := u) (v := v)
  rw [hV] at s1 s2
  by_cases hu : u = 0
  · exact Or.inl hu
  · right
    have hr0 : n.tmod (10 ^ s.toNat) ≠ 0 := fun h0 => hu (s1.1 (by rw [h0]; simp))
    have hr : (0 < n.tmod (10 ^ s.toNat) * 10 ^ (9 - s).toNat) ↔ 0 < n.tmod (10 ^ s.toNat) := by
      constructor
      · intro h0
        rcases (show 0 < (n.tmod (10 ^ s.toNat)) ∨ (n.tmod (10 ^ s.toNat)) ≤ 0 by omega) with h' | h'
        · exact h'
        · have := Int.mul_nonpos_of_nonpos_of_nonneg h' (Int.le_of_lt hq)
          omega
      · intro h0
        exact Int.mul_pos h0 hq
    have hn : 0 < n.tmod (10 ^ s.toNat) ↔ 0 < n := by
      constructor
      · intro h0
        rcases (show 0 < n ∨ n ≤ 0 by omega) with h' | h'
        · exact h'
        · exfalso
          have := Int.tmod_nonneg (a := -n) (10 ^ s.toNat) (by omega)
          rw [Int.neg_tmod] at this
          omega
      · intro h0
        have := Int.tmod_nonneg (a := n) (10 ^ s.toNat) (by omega)
        omega
    rw [decide_eq_decide]
    exact s2.symm.trans (hr.trans hn)

/-- Plain letters are a valid text. -/
theorem valid_ascii (t : ByteArray) (h : ∀ x ∈ t.data.toList, 32 ≤ x.toNat ∧ x.toNat < 127) : validF t = true := by
  have hL : t.data.toList.length = t.size := by simp
  have hb : ∀ i, i < t.size → 32 ≤ byteAt t i ∧ byteAt t i < 127 := by
    intro i hi
    unfold byteAt
    have := h (t.data[i]?.getD 0) (by
      rw [← Array.getElem?_toList, List.getElem?_eq_getElem (by omega)]
      simp)
    omega
  have key : ∀ (k j : Nat), t.size < k + j → ∃ l, ptsR t k j = some l ∧ l.all xmlF = true := by
    intro k
    induction k with
    | zero => intro j hj; exact ⟨[], rfl, rfl⟩
    | succ k ih =>
      intro j hj
      by_cases hjs : j < t.size
      · have e0 : byteAt (t.extract j t.size) 0 = byteAt t j := by
          rw [byteAt_drop t j 0 (by omega)]
          unfold byteAt
          rw [List.getD_eq_getElem?_getD, List.getElem?_drop, ← Array.getElem?_toList]
          simp
        obtain ⟨b1, b2⟩ := hb j hjs
        have en : nextF (t.extract j t.size) = (byteAt t j, 1) := by
          unfold nextF nextG
          rw [e0, if_pos (by omega)]
        obtain ⟨l, hl, ha⟩ := ih (j + 1) (by omega)
        refine ⟨byteAt t j :: l, ?_, ?_⟩
        · unfold ptsR
          rw [if_pos hjs, en]
          show (if (1 : Int) = 0 then _ else (ptsR t k (j + (1 : Int).toNat)).map _) = _
          rw [if_neg (by omega)]
          show (ptsR t k (j + 1)).map _ = _
          rw [hl]
          rfl
        · rw [List.all_cons, ha]
          unfold xmlF
          simp
          omega
      · refine ⟨[], ?_, rfl⟩
        unfold ptsR
        rw [if_neg hjs]
  obtain ⟨l, hl, ha⟩ := key (t.size + 1) 0 (by omega)
  unfold validF pointsF
  rw [hl]
  exact ha
theorem numC_bd {x : UInt8} (h : numC x = true) : 32 ≤ x.toNat ∧ x.toNat < 127 := by
  have : ∀ n : Fin 256, numC (UInt8.ofNat n.val) = true → 32 ≤ (UInt8.ofNat n.val).toNat ∧ (UInt8.ofNat n.val).toNat < 127 := by decide +kernel
  have h' := this ⟨x.toNat, x.toNat_lt⟩
  simp only [UInt8.ofNat_toNat] at h'
  exact h' h
theorem valid_text {a : At} (h : RA a) : validF (textF a) = true := by
  cases h with
  | int n h =>
    refine valid_ascii _ fun x hx => ?_
    have hx' : x ∈ Lib.itoa n := hx
    rw [itoa_format] at hx'
    exact numC_bd (format_chars n 0 x hx')
  | dec n s h =>
    refine valid_ascii _ fun x hx => ?_
    exact numC_bd (format_chars n s.toNat x hx)
  | str t h => exact h
  | bool b => cases b <;> exact valid_ascii _ (by decide)
  | raw t h => exact h
theorem RA_text {a : At} (h : RA a) : RA (textA (textF a)) := RA.str _ (valid_text h)
theorem RA_raw {a : At} (h : RA a) : RA (rawA (textF a)) := RA.raw _ (valid_text h)
theorem fitW_Rt (neg : Bool) (m s : Nat) (h : (fitW neg m s).2.2 = 0) : Rt (fitW neg m s).1 (fitW neg m s).2.1 := by
  rcases fitW_cases neg m s with h1 | ⟨n, k, h1, h2, -⟩
  · rw [h1] at h
    cases h
  · rw [h1]
    exact h2
theorem parse_Rt (l : List UInt8) (h : (parseF l).2.2 = 0) : Rt (parseF l).1 (parseF l).2.1 := by
  unfold parseF at *
  split
  · exact Rt.zero
  · rename_i hc
    rw [if_neg hc] at h
    exact fitW_Rt _ _ _ h
theorem castE_zero {e : Int} : castE e = 0 ↔ e = 0 := by
  unfold castE
  by_cases h : e = 12
  · subst h; decide
  · have : (e == 12) = false := by simpa using h
    rw [this]
    rfl
theorem number_Rt (t : ByteArray) (h : (numberF t).2.2 = 0) : Rt (numberF t).1 (numberF t).2.1 := parse_Rt _ (castE_zero.1 h)
/-- What a cast gives is right. -/
theorem cast_RA {a : At} (h : RA a) (to : Int) (h0 : (castF a to).2 = 0) : RA (castF a to).1 := by
  have hi : ∀ x : At, x.k = 2 ∨ x.k = 4 ∨ True → (x.k = 2 → Rt x.n x.s) → (toIntF x).2 = 0 → RA (toIntF x).1 := by
    intro x _ hx hz
    unfold toIntF at *
    by_cases e2 : (x.k == 2) = true
    · rw [if_pos e2]
      exact RA.int _ (trunc_Rt (hx (by simpa using e2)))
    · rw [if_neg e2] at hz ⊢
      by_cases e4 : (x.k == 4) = true
      · rw [if_pos e4]
        cases x.b
        · exact RA.int _ Rt.zero
        · exact RA.int _ (Rt.whole (by decide) (by decide))
      · rw [if_neg e4] at hz ⊢
        split at hz
        · cases hz
        · rename_i hc
          rw [if_neg hc]
          split at hz
          · rename_i hd
            rw [if_pos hd]
            have := number_Rt x.t (by simpa using hd)
            exact RA.int _ (Rt.whole this.lo this.hi)
          · rename_i hd
            simp only at hz
            rw [hz] at hd
            exact absurd rfl hd
  have hd : (a.k = 1 → Rt a.n 0) → (toDecF a).2 = 0 → RA (toDecF a).1 := by
    intro h1 hz
    unfold toDecF at *
    by_cases e2 : (a.k == 1) = true
    · rw [if_pos e2]
      exact RA.dec _ _ (h1 (by simpa using e2))
    · rw [if_neg e2] at hz ⊢
      by_cases e4 : (a.k == 4) = true
      · rw [if_pos e4]
        cases a.b
        · exact RA.dec _ _ Rt.zero
        · exact RA.dec _ _ (Rt.whole (by decide) (by decide))
      · rw [if_neg e4] at hz ⊢
        split at hz
        · rename_i hd
          rw [if_pos hd]
          exact RA.dec _ _ (number_Rt a.t (by simpa using hd))
        · rename_i hd
          simp only at hz
          rw [hz] at hd
          exact absurd rfl hd
  have hb : (toBoolF a).2 = 0 → RA (toBoolF a).1 := by
    intro hz
    unfold toBoolF at *
    split
    · exact RA.bool _
    · rename_i c1
      rw [if_neg c1] at hz
      split
      · exact RA.bool _
      · rename_i c2
        rw [if_neg c2] at hz
        split
        · exact RA.bool _
        · rename_i c3
          rw [if_neg c3] at hz
          cases hz
  have k1 : a.k = 1 → Rt a.n 0 := by
    intro e
    cases h with
    | int n h => exact h
    | _ => cases e
  have k2 : a.k = 2 → Rt a.n a.s := by
    intro e
    cases h with
    | dec n s h => exact h
    | _ => cases e
  unfold castF at h0 ⊢
  by_cases c1 : (decide (to < 1) || decide (6 ≤ to)) = true
  · rw [if_pos c1] at h0
    cases h0
  · rw [if_neg c1] at h0 ⊢
    split
    · exact h
    · rename_i c2
      rw [if_neg c2] at h0
      split
      · rename_i c3
        rw [if_pos c3] at h0
        exact hi a (Or.inr (Or.inr trivial)) k2 h0
      · rename_i c3
        rw [if_neg c3] at h0
        split
        · rename_i c4
          rw [if_pos c4] at h0
          exact hd k1 h0
        · rename_i c4
          rw [if_neg c4] at h0
          split
          · rename_i c5
            rw [if_pos c5] at h0
            exact hb h0
          · split
            · exact RA_text h
            · exact RA_raw h
/-- Without a point there is no part behind it. -/
theorem cut_none {l : List UInt8} (h : l.contains 46 = false) : Lib.cut l [46] = (l, [], false) := by
  rw [cut_point]
  have h1 : ∀ x ∈ l, (x.toNat != 46) = true := by
    intro x hx
    simp only [bne_iff_ne]
    intro e
    have : x = 46 := UInt8.toNat_inj.1 e
    subst this
    simp at h
    exact h hx
  have e1 : l.takeWhile (fun b => b.toNat != 46) = l := by
    have : ∀ m : List UInt8, (∀ x ∈ m, (x.toNat != 46) = true) → m.takeWhile (fun b => b.toNat != 46) = m := by
      intro m
      induction m with
      | nil => intro _; rfl
      | cons c m ih =>
        intro hm
        rw [List.takeWhile_cons, hm c (by simp), ih (fun x hx => hm x (by simp [hx]))]
        rfl
    exact this l h1
  have e2 : l.dropWhile (fun b => b.toNat != 46) = [] := by
    rw [dropWhile_nil, List.all_eq_true]
    exact h1
  have e3 : l.any (fun b => b.toNat == 46) = false := by
    rw [List.any_eq_false]
    intro x hx
    have := h1 x hx
    simpa using this
  rw [e1, e2, e3]
  rfl
theorem fitW_scale0 (neg : Bool) (m : Nat) : (fitW neg m 0).2.1 = 0 := by
  rcases fitW_cases neg m 0 with h | ⟨n, k, h, hR, -, h2⟩
  · rw [h]
  · have h3 : val9 n k = val9 (sgn neg m) 0 := by
      rw [h2]
      simp [val9]
    rw [h]
    show k = 0
    have := uniq9 n (sgn neg m) k 0 h3 hR.s0 hR.s9 (by omega) (by omega) hR.nz (by omega)
    exact this.2
theorem parse_scale (l : List UInt8) (h : l.contains 46 = false) : (parseF l).2.1 = 0 := by
  have h2 : (signF l).2.contains 46 = false := by
    cases l with
    | nil => rfl
    | cons c r =>
      have hr : r.contains 46 = false := by
        simp at h ⊢
        exact h.2
      show (if c.toNat == 45 then (true, r) else if c.toNat == 43 then (false, r) else (false, c :: r)).2.contains 46 = false
      cases c.toNat == 45
      · cases c.toNat == 43
        · exact h
        · exact hr
      · exact hr
  unfold parseF
  rw [cut_none h2]
  split
  · rfl
  · exact fitW_scale0 _ _
end Go.Proofs.YtfagfkfcokmclaaGreatDoor
end

/- Comparing values, plain. -/
section
set_option linter.unusedSimpArgs false
set_option linter.unusedVariables false
namespace Go.Proofs.YtfagfkfcokmclaaGreatDoor

/-- The order of texts. -/
def strC (t u : ByteArray) : Int := Lib.compareBytes t.data.toList u.data.toList
theorem cb_self : ∀ l, Lib.compareBytes l l = 0
  | [] => rfl
  | a :: l => by
    unfold Lib.compareBytes
    rw [if_neg (UInt8.lt_irrefl a), if_neg (UInt8.lt_irrefl a)]
    exact cb_self l
theorem cb_neg : ∀ l m, Lib.compareBytes l m = - Lib.compareBytes m l
  | [], [] => rfl
  | [], _ :: _ => rfl
  | _ :: _, [] => rfl
  | a :: l, b :: m => by
    unfold Lib.compareBytes
    by_cases h1 : a < b
    · have h2 : ¬ b < a := fun h => UInt8.lt_irrefl a (UInt8.lt_trans h1 h)
      rw [if_pos h1, if_neg h2, if_pos h1]
    · by_cases h2 : b < a
      · rw [if_neg h1, if_pos h2, if_pos h2]
        rfl
      · rw [if_neg h1, if_neg h2, if_neg h2, if_neg h1]
        exact cb_neg l m
theorem cb_vals : ∀ l m, Lib.compareBytes l m = -1 ∨ Lib.compareBytes l m = 0 ∨ Lib.compareBytes l m = 1
  | [], [] => .inr (.inl rfl)
  | [], _ :: _ => .inl rfl
  | _ :: _, [] => .inr (.inr rfl)
  | a :: l, b :: m => by
    unfold Lib.compareBytes
    split
    · exact .inl rfl
    · split
      · exact .inr (.inr rfl)
      · exact cb_vals l m
theorem cb_zero : ∀ l m, Lib.compareBytes l m = 0 → l = m
  | [], [], _ => rfl
  | [], _ :: _, h => by cases h
  | _ :: _, [], h => by cases h
  | a :: l, b :: m, h => by
    unfold Lib.compareBytes at h
    split at h
    · cases h
    · split at h
      · cases h
      · rename_i h1 h2
        have : a = b := by
          have h3 := UInt8.not_lt.1 h1
          have h4 := UInt8.not_lt.1 h2
          exact UInt8.le_antisymm h4 h3
        subst this
        rw [cb_zero l m h]
theorem cb_trans : ∀ l m k, Lib.compareBytes l m ≤ 0 → Lib.compareBytes m k ≤ 0 → Lib.compareBytes l k ≤ 0 ∧ (Lib.compareBytes l m < 0 → Lib.compareBytes l k < 0) ∧ (Lib.compareBytes m k < 0 → Lib.compareBytes l k < 0)
  | [], [], k, h1, h2 => ⟨h2, fun h => by simp [Lib.compareBytes] at h, fun h => h⟩
  | [], b :: m, [], h1, h2 => by simp [Lib.compareBytes] at h2
  | [], b :: m, c :: k, h1, h2 => by simp [Lib.compareBytes]
  | a :: l, [], k, h1, h2 => by simp [Lib.compareBytes] at h1
  | a :: l, b :: m, [], h1, h2 => by simp [Lib.compareBytes] at h2
  | a :: l, b :: m, c :: k, h1, h2 => by
    have ih := cb_trans l m k
    have t1 : ∀ x y z : UInt8, x < y → y < z → x < z := fun x y z => UInt8.lt_trans
    have e1 : ∀ x y : UInt8, ¬ x < y → ¬ y < x → x = y := fun x y p q => UInt8.le_antisymm (UInt8.not_lt.1 q) (UInt8.not_lt.1 p)
    unfold Lib.compareBytes at h1 h2 ⊢
    by_cases ab : a < b
    · by_cases bc : b < c
      · have ac := t1 _ _ _ ab bc
        simp [ab, bc, ac]
      · by_cases cb : c < b
        · simp [bc, cb] at h2
        · have := e1 _ _ bc cb
          subst this
          simp [ab]
    · by_cases ba : b < a
      · simp [ab, ba] at h1
      · have := e1 _ _ ab ba
        subst this
        by_cases bc : a < c
        · simp [bc]
        · by_cases cb : c < a
          · simp [bc, cb] at h2
          · simp only [bc, cb, ab, if_false] at h1 h2 ⊢
            exact ih h1 h2

theorem less_cb : ∀ l m, Op.bytesLess l m = decide (Lib.compareBytes l m < 0)
  | [], [] => rfl
  | [], _ :: _ => rfl
  | _ :: _, [] => rfl
  | a :: l, b :: m => by
    unfold Op.bytesLess Lib.compareBytes
    by_cases h1 : a < b
    · simp [h1]
    · by_cases h2 : b < a
      · have : (a == b) = false := by
          cases e : a == b
          · rfl
          · rw [beq_iff_eq] at e
            subst e
            exact absurd h2 (UInt8.lt_irrefl a)
        simp [h1, h2, this]
      · have : a = b := UInt8.le_antisymm (UInt8.not_lt.1 h2) (UInt8.not_lt.1 h1)
        subst this
        simp [h1, less_cb l m]
theorem eq_cb (l m : List UInt8) : (l == m) = decide (Lib.compareBytes l m = 0) := by
  cases e : l == m
  · refine (decide_eq_false fun h => ?_).symm
    rw [cb_zero l m h] at e
    simp at e
  · refine (decide_eq_true ?_).symm
    rw [beq_iff_eq] at e
    subst e
    exact cb_self l
def groupF (a : At) : Int := if a.k == 1 || a.k == 2 then 1 else if a.k == 3 || a.k == 5 then 2 else 3
def boolC (a b : Bool) : Int := if a == b then 0 else if b then -1 else 1
/-- The order of two right values, or the error. -/
def orderF (a b : At) : Int × Int :=
  if (a.k == 1 || a.k == 2) && (b.k == 1 || b.k == 2) then (cmpF a.n a.s b.n b.s, 0)
  else if (a.k == 3 || a.k == 5) && (b.k == 3 || b.k == 5) then (strC a.t b.t, 0)
  else if a.k == 4 && b.k == 4 then (boolC a.b b.b, 0) else (0, 44)
def holdF (op n : Int) : Bool :=
  if op == 13 then n == 0 else if op == 14 then n != 0 else if op == 15 then decide (n < 0) else if op == 16 then decide (n ≤ 0) else if op == 17 then decide (0 < n) else decide (0 ≤ n)
def valueF (op : Int) (a b : At) : Bool × Int :=
  if decide (op < 13) || decide (18 < op) then (false, 2) else ((orderF a b).2 == 0 && holdF op (orderF a b).1, (orderF a b).2)
def besideF (a b : At) : At × Int :=
  if a.k != 5 then (a, 0) else if b.k == 1 || b.k == 2 then castF a 2 else if b.k == 4 then castF a 4 else (a, 0)
def pairF (op : Int) (a b : At) : Bool × Int :=
  if (besideF a b).2 != 0 then (false, (besideF a b).2) else if (besideF b a).2 != 0 then (false, (besideF b a).2) else valueF op (besideF a b).1 (besideF b a).1
/-- One value against many, from a place on. -/
def rowF (op : Int) (a : At) : List At → Bool × Int
  | [] => (false, 0)
  | b :: r => if (pairF op a b).1 || (pairF op a b).2 != 0 then pairF op a b else rowF op a r
def genF (op : Int) : List At → List At → Bool × Int
  | [], _ => (false, 0)
  | a :: r, bs => if (rowF op a bs).1 || (rowF op a bs).2 != 0 then rowF op a bs else genF op r bs
def generalF (op : Int) (xs ys : List At) : Bool × Int := if decide (op < 19) || decide (24 < op) then (false, 2) else genF (op - 19 + 13) xs ys
def truthF (first : Bool) (l : List At) : Bool × Int :=
  if first then (true, 0) else match l with | [] => (false, 0) | [a] => (a.b || a.t.toList != [] || a.n != 0, 0) | _ => (false, 51)
theorem cmpF_vals (n s k t : Int) : cmpF n s k t = -1 ∨ cmpF n s k t = 0 ∨ cmpF n s k t = 1 := by
  unfold cmpF
  split
  · exact .inr (.inl rfl)
  · split
    · exact .inl rfl
    · exact .inr (.inr rfl)
theorem boolC_vals (a b : Bool) : boolC a b = -1 ∨ boolC a b = 0 ∨ boolC a b = 1 := by cases a <;> cases b <;> decide
theorem order_vals (a b : At) : (orderF a b).1 = -1 ∨ (orderF a b).1 = 0 ∨ (orderF a b).1 = 1 := by
  unfold orderF
  split
  · exact cmpF_vals _ _ _ _
  · split
    · exact cb_vals _ _
    · split
      · exact boolC_vals _ _
      · exact .inr (.inl rfl)
theorem RA_k {a : At} (h : RA a) : a.k = 1 ∨ a.k = 2 ∨ a.k = 3 ∨ a.k = 4 ∨ a.k = 5 := by
  cases h <;> simp [ofA, numA, textA, truthA, rawA]
theorem order_err (a b : At) : (orderF a b).2 = 0 ∨ (orderF a b) = (0, 44) := by
  unfold orderF
  (repeat' split) <;> simp
end Go.Proofs.YtfagfkfcokmclaaGreatDoor
end
