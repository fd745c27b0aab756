/- A tree's form, plain; trees, one behind the other. -/
import Derived.Test.YtgdbbocfiejlfaaSeK
set_option linter.unusedSimpArgs false
set_option linter.unusedVariables false
set_option linter.constructorNameAsVariable false
namespace Go.Proofs.Ytgdbbocfiejlfaa
open Go.RowKit

def bsl (s : ByteArray) : List UInt8 := s.data.toList
def attrF (p : Pr) : List UInt8 := catF [⟨#[32]⟩, p.1, ⟨#[61, 34]⟩, ⟨(escF tabV (bsl p.2)).toArray⟩, ⟨#[34]⟩]
def attrsO (ps : List Pr) : List UInt8 := ps.flatMap attrF
def nodeO {K : Type} (f : K → List UInt8) (t : Nd K) : List UInt8 :=
  if t.k == 1 then t.ks.flatMap f
  else if t.k == 2 then catF [⟨#[60]⟩, t.n] ++ attrsO t.as ++ (if t.ks.length == 0 then catF [⟨#[47, 62]⟩] else catF [⟨#[62]⟩] ++ t.ks.flatMap f ++ catF [⟨#[60, 47]⟩, t.n, ⟨#[62]⟩])
  else if t.k == 4 then catF [⟨(escF tabE (bsl t.v)).toArray⟩]
  else if t.k == 5 then catF [⟨#[60, 33, 45, 45]⟩, t.v, ⟨#[45, 45, 62]⟩]
  else []
def nodeK {K : Type} (g : K → Bool) (t : Nd K) : Bool :=
  if t.k == 1 || t.k == 2 then t.ks.all g
  else if t.k == 4 then true
  else if t.k == 5 then !Lib.contains (bsl (t.v ++ ⟨#[45]⟩)) (bsl ⟨#[45, 45]⟩)
  else false
/-- What is laid. -/
def outF : (h : Nat) → Tr h → List UInt8
  | 0, t => nomatch t
  | h + 1, t => nodeO (outF h) t
/-- Has it a form? -/
def okF : (h : Nat) → Tr h → Bool
  | 0, t => nomatch t
  | h + 1, t => nodeK (okF h) t
def outs (h : Nat) (ts : List (Tr h)) : List UInt8 := ts.flatMap (outF h)
def oks (h : Nat) (ts : List (Tr h)) : Bool := ts.all (okF h)
/-- No text is too long. -/
def StrOk (L : Nat) : (h : Nat) → Tr h → Prop
  | 0, t => nomatch t
  | h + 1, t => (Nd.n t).size ≤ L ∧ (Nd.v t).size ≤ L ∧ (∀ p ∈ Nd.as t, p.1.size ≤ L ∧ p.2.size ≤ L) ∧ ∀ k ∈ Nd.ks t, StrOk L h k
theorem outs_snoc (h : Nat) (ts : List (Tr h)) (j : Nat) (x : Tr h) (hj : ts[j]? = some x) : outs h (ts.take (j + 1)) = outs h (ts.take j) ++ outF h x := by
  unfold outs
  rw [take_one ts j x hj, List.flatMap_append]
  simp
theorem oks_snoc (h : Nat) (ts : List (Tr h)) (j : Nat) (x : Tr h) (hj : ts[j]? = some x) : oks h (ts.take (j + 1)) = (oks h (ts.take j) && okF h x) := by
  unfold oks
  rw [take_one ts j x hj, List.all_append]
  simp
theorem outs_take (h : Nat) (ts : List (Tr h)) (j : Nat) : (outs h (ts.take j)).length ≤ (outs h ts).length := by
  conv => rhs; rw [← List.take_append_drop j ts]
  unfold outs
  rw [List.flatMap_append, List.length_append]
  omega
/-- What is asked of tree's contract. -/
def TreeC (h : Nat) : Prop := ∀ (t : Tr h) (cs : Array Value) (B b : Nat) (ok : Bool) (bs : List UInt8) (w : World) (m : Int), WB B b ok bs w → TLies (fun i => i < B) h w t cs → StrOk 1048576 h t → bs.length + (outF h t).length ≤ 140737488355328 → B ≤ w.heap.size → 0 < B → w.cell? ⟨0, 0, none⟩ = some (.int .i64 m) →
  Calls Try.prog 10 #[.pointer (some ⟨b, 0, none⟩), .agg cs] w fun e w' => e = .returned (.tuple #[]) ∧ WB B b (ok && okF h t) (bs ++ outF h t) w' ∧ WK B w w'
theorem keptB {B : Nat} {w w' : World} (h : Below B w w') : Kept (fun i => i < B) w w' := kept_ofB h fun _ hb => hb
set_option maxRecDepth 100000 in
set_option maxHeartbeats 1600000 in
theorem trees_any (h : Nat) (IH : TreeC h) (ts : List (Tr h)) (a : Option Addr) (c B b : Nat) (ok : Bool) (bs : List UInt8) (w : World) (m : Int) (hW : WB B b ok bs w) (hT : KRow (fun i => i < B) (TLies (fun i => i < B) h w) w a ts) (hl : ts.length ≤ 9223372036854775807)
    (hst : ∀ t ∈ ts, StrOk 1048576 h t) (hlen : bs.length + (outs h ts).length ≤ 140737488355328) (hBw : B ≤ w.heap.size) (hB0 : 0 < B) (hm : w.cell? ⟨0, 0, none⟩ = some (.int .i64 m)) :
    Calls Try.prog 8 #[.pointer (some ⟨b, 0, none⟩), .slice a ts.length c] w fun e w' => e = .returned (.tuple #[]) ∧ WB B b (ok && oks h ts) (bs ++ outs h ts) w' ∧ WK B w w' := by
  have HW := Lib.hid hW
  have HT := Lib.hid hT
  have HI := Lib.hid IH
  have HS := Lib.hid hst
  have HM := Lib.hid hm
  clear hW hT IH hst hm
  go_enter Try.func8, Try.ntmps8
  go_wp2_with fail
  go_loopg [8] (ts.length + 1) (fun gm ii wr => ∃ j : Nat, j ≤ ts.length ∧ gm + j = ts.length + 1 ∧ ii = .int .i64 (j : Int) ∧ Hid (WB B b (ok && oks h (ts.take j)) (bs ++ outs h (ts.take j)) wr ∧ WK B w wr))
  case atStart => exact ⟨0, by omega, by omega, rfl, by unfold Hid; rw [List.take_zero]; exact ⟨by simpa [oks, outs] using HW.out, WK.refl _ _⟩⟩
  case round =>
    obtain ⟨j, hj, hmj, rfl, HD⟩ := hrel
    have hj0 : (0 : Int) ≤ (j : Int) := Int.natCast_nonneg _
    by_cases hlt : j < ts.length
    · have i0 : decide ((j : Int) < (ts.length : Int)) = true := by simp; omega
      have i6 : (j : Int) < (ts.length : Int) := by omega
      obtain ⟨x, hjx⟩ : ∃ x, ts[j]? = some x := ⟨_, List.getElem?_eq_getElem hlt⟩
      rcases HT.out with h0 | ⟨q, o, rfl, hq, hqB, hc⟩
      · rw [h0] at hlt; simp at hlt
      obtain ⟨c0, c1, c2, c3, c4, u0, u1, u2, u3, u4, hx⟩ := hc j x hjx
      have hbl := HD.out.2.bl
      obtain ⟨k, n, v, aa, la, ca, ka, lk, ck, rfl, rfl, rfl, rfl, rfl⟩ : ∃ k n v aa la ca ka lk ck, c0 = .int .i64 k ∧ c1 = .string n ∧ c2 = .string v ∧ c3 = .slice aa la ca ∧ c4 = .slice ka lk ck := by
        cases h with
        | zero => exact nomatch x
        | succ h =>
          obtain ⟨aa, ca, ka, ck, H⟩ := hx
          have e := H.cells
          simp only [Array.mk.injEq, List.cons.injEq, and_true] at e
          exact ⟨_, _, _, _, _, _, _, _, _, e.1, e.2.1, e.2.2.1, e.2.2.2.1, e.2.2.2.2⟩
      replace u0 := (hbl.cell (p := ⟨q, o + j * 5, none⟩) hqB).trans u0
      replace u1 := (hbl.cell (p := ⟨q, o + j * 5 + 1, none⟩) hqB).trans u1
      replace u2 := (hbl.cell (p := ⟨q, o + j * 5 + 2, none⟩) hqB).trans u2
      replace u3 := (hbl.cell (p := ⟨q, o + j * 5 + 3, none⟩) hqB).trans u3
      replace u4 := (hbl.cell (p := ⟨q, o + j * 5 + 4, none⟩) hqB).trans u4
      have lq := Nat.lt_of_lt_of_le hq hbl.size
      have hsz := hbl.size
      have hsn := outs_snoc h ts j x hjx
      have hkn := oks_snoc h ts j x hjx
      have hle := outs_take h ts (j + 1)
      have hlx : (bs ++ outs h (ts.take j)).length + (outF h x).length ≤ 140737488355328 := by
        rw [hsn, List.length_append] at hle
        rw [List.length_append]
        omega
      have hbx : Below wr.heap.size wr (wr.alloc (.cells #[.int .i64 k, .string n, .string v, .slice aa la ca, .slice ka lk ck] 31)) := (Below.refl _ _).alloc (Nat.le_refl _) _
      have hbw : Below B w (wr.alloc (.cells #[.int .i64 k, .string n, .string v, .slice aa la ca, .slice ka lk ck] 31)) := hbl.trans (hbx.mono (by omega))
      have CT := Lib.hid (HI.out x _ B b _ _ _ m (HD.out.1.on hbx) (hx.go (keptB hbw) fun _ h _ => h) (HS.out x (List.mem_of_getElem? hjx)) hlx (by have := hbx.size; omega) hB0 ((hbw.cell (p := ⟨0, 0, none⟩) hB0).trans HM.out))
      have HK := Lib.hid (HD.out.2.trans (WK.of hbx (by omega)))
      have HSN := Lib.hid (And.intro hsn hkn)
      clear hx hc hjx hsn hkn hle hlx HD hbx hbw hbl
      go_wp2_with fail
      with_reducible refine CT.out.mono ?_
      rintro e w1 ⟨rfl, hw1, hk1⟩
      have HN : Hid (WB B b (ok && oks h (ts.take (j + 1))) (bs ++ outs h (ts.take (j + 1))) w1 ∧ WK B w w1) := by
        unfold Hid
        rw [HSN.out.1, HSN.out.2, ← List.append_assoc, ← Bool.and_assoc]
        exact ⟨hw1, HK.out.trans hk1⟩
      clear hw1 hk1 CT
      go_wp2_with fail
      go_roundg (gk - 1)
      case measure => omega
      case rel => exact ⟨j + 1, by omega, by omega, by go_num, HN⟩
    · have i0 : decide ((j : Int) < (ts.length : Int)) = false := by simp; omega
      have hd := HD.out
      rw [List.take_of_length_le (by omega)] at hd
      clear HD HW HT
      go_wp2_with fail
      go_end0
      exact ⟨rfl, hd⟩
end Go.Proofs.Ytgdbbocfiejlfaa
