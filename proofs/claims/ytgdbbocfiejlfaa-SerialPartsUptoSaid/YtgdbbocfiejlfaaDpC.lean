/- How many nodes: plain; the document's parts and Few. -/
import Derived.Test.YtgdbbocfiejlfaaDpB
import Derived.WalkKit
import Derived.ProofKit
import Derived.OwnWalk
import Derived.Lib.Hide
import Derived.IntWalk
import Derived.Lib.Bytealg
import Derived.Deep.QuietTactic
import Derived.BigQuiet
set_option linter.unusedSimpArgs false
set_option linter.unusedVariables false
set_option linter.constructorNameAsVariable false
namespace Go.Proofs.Ytgdbbocfiejlfaa
open Go.RowKit

def kidsP {K : Type} (f : K → Int → Int) : List K → Int → Int
  | [], l => l
  | k :: r, l => if l < 0 then l else kidsP f r (f k l)
def nodeP {K : Type} (f : K → Int → Int) (t : Nd K) (l : Int) : Int := kidsP f t.ks (l - 1 - t.as.length)
/-- How many are left. -/
def partsF : (h : Nat) → Tr h → Int → Int
  | 0, t, _ => nomatch t
  | h + 1, t, l => nodeP (partsF h) t l
def fewF (h : Nat) (n : Int) (ts : List (Tr h)) : Bool := decide (0 ≤ kidsP (partsF h) ts n)
theorem kidsP_le {K : Type} {f : K → Int → Int} (hf : ∀ k l, f k l ≤ l - 1) : ∀ ks l, kidsP f ks l ≤ l
  | [], l => Int.le_refl _
  | k :: r, l => by
    unfold kidsP
    split
    · omega
    · have := kidsP_le hf r (f k l)
      have := hf k l
      omega
theorem partsF_le : ∀ h (t : Tr h) l, partsF h t l ≤ l - 1
  | 0, t, _ => nomatch t
  | h + 1, t, l => by
    show kidsP (partsF h) (Nd.ks t) (l - 1 - (Nd.as t).length) ≤ l - 1
    have := kidsP_le (partsF_le h) (Nd.ks t) (l - 1 - (Nd.as t).length)
    omega
/-- A tree of no great rows. -/
def SmallT : (h : Nat) → Tr h → Prop
  | 0, t => nomatch t
  | h + 1, t => (Nd.as t).length ≤ 400 ∧ (Nd.ks t).length ≤ 400 ∧ ∀ k ∈ Nd.ks t, SmallT h k
theorem kidsP_small {K : Type} {f : K → Int → Int} {Q : K → Prop} (hf : ∀ k l, f k l ≤ l - 1) (hq : ∀ k l, l ≤ 400 → 0 ≤ f k l → Q k) : ∀ ks l, l ≤ 400 → 0 ≤ kidsP f ks l → (ks.length : Int) ≤ l ∧ ∀ k ∈ ks, Q k
  | [], l, h1, h2 => ⟨by show (0 : Int) ≤ l; exact h2, fun k hk => by cases hk⟩
  | k :: r, l, h1, h2 => by
    unfold kidsP at h2
    split at h2
    · omega
    · have h3 := hf k l
      have h4 := kidsP_small hf hq r (f k l) (by omega) h2
      have h5 := kidsP_le hf r (f k l)
      refine ⟨by simp; omega, fun x hx => ?_⟩
      rcases List.mem_cons.1 hx with rfl | hx
      · exact hq _ l h1 (by omega)
      · exact h4.2 x hx
theorem partsF_small : ∀ h (t : Tr h) l, l ≤ 400 → 0 ≤ partsF h t l → SmallT h t
  | 0, t, _, _, _ => nomatch t
  | h + 1, t, l, h1, h2 => by
    have h2 : 0 ≤ kidsP (partsF h) (Nd.ks t) (l - 1 - (Nd.as t).length) := h2
    have h3 := kidsP_le (partsF_le h) (Nd.ks t) (l - 1 - (Nd.as t).length)
    have h4 := kidsP_small (Q := SmallT h) (partsF_le h) (partsF_small h) (Nd.ks t) (l - 1 - (Nd.as t).length) (by omega) h2
    exact ⟨by omega, by omega, h4.2⟩
theorem fewF_small (h : Nat) (n : Int) (ts : List (Tr h)) (hn : n ≤ 400) (hf : fewF h n ts = true) : ∀ t ∈ ts, SmallT h t :=
  (kidsP_small (Q := SmallT h) (partsF_le h) (partsF_small h) ts n hn (by simpa [fewF] using hf)).2

theorem kdrop {α : Type} {xs : List α} {j : Nat} {x : α} (h : xs[j]? = some x) : xs.drop j = x :: xs.drop (j + 1) := by
  have hlt : j < xs.length := by
    rcases Nat.lt_or_ge j xs.length with h' | h'
    · exact h'
    · simp [List.getElem?_eq_none h'] at h
  rw [List.getElem?_eq_getElem hlt] at h
  rw [List.drop_eq_getElem_cons hlt, Option.some.inj h]
theorem Blk.here5 {w : World} {o : Obj} {cs : Array Value} {t : TypeId} (ho : o = .cells cs t) : Blk (w.alloc o) w.heap.size cs t := by
  subst ho
  exact Blk.new _ _ _
theorem Blk.five5 {w : World} {b : Nat} {x y z u v : Value} {t : TypeId} (h : Blk w b #[x, y, z, u, v] t) :
    (w.cell? ⟨b, 0, none⟩ = some x ∧ w.cell? ⟨b, 1, none⟩ = some y ∧ w.cell? ⟨b, 2, none⟩ = some z ∧ w.cell? ⟨b, 3, none⟩ = some u ∧ w.cell? ⟨b, 4, none⟩ = some v) ∧
    w.frozen? ⟨b, 0, none⟩ = false ∧ w.frozen? ⟨b, 1, none⟩ = false ∧ w.frozen? ⟨b, 2, none⟩ = false ∧ w.frozen? ⟨b, 3, none⟩ = false ∧ w.frozen? ⟨b, 4, none⟩ = false :=
  ⟨⟨h.cell 0, h.cell 1, h.cell 2, h.cell 3, h.cell 4⟩, h.free 0, h.free 1, h.free 2, h.free 3, h.free 4⟩
set_option maxRecDepth 100000 in
set_option maxHeartbeats 2000000 in
theorem parts_any : ∀ (h : Nat) (S : Nat → Prop) (t : Tr h) (cs : Array Value) (w : World) (l : Int), TLies S h w t cs → 0 ≤ l → l ≤ 1000000 → Calls Try.prog 7 #[.agg cs, .int .i64 l] w fun e w' => e = .returned (.int .i64 (partsF h t l)) ∧ Below w.heap.size w w'
  | 0, _, t, _, _, _, _, _, _ => nomatch t
  | h + 1, S, (⟨k, n, v, ps, ks⟩ : Nd (Tr h)), cs, w, l, ⟨aa, ca, ka, ck, H⟩, l0, l4 => by
    obtain ⟨rfl, -, -, al, kl, -, hks⟩ := H
    simp only at al kl hks ⊢
    have IH := Lib.hid (fun x ds w' l' => parts_any h S x ds w' l')
    have HK := Lib.hid hks
    obtain ⟨RES, hR⟩ : ∃ r, kidsP (partsF h) ks (l - 1 - ps.length) = r := ⟨_, rfl⟩
    have p1 : IntKind.i64.wrap (l - 1) = l - 1 := IntWalk.i64_in _ (by omega)
    have p2 : IntKind.i64.wrap (l - 1 - (ps.length : Int)) = l - 1 - (ps.length : Int) := IntWalk.i64_in _ (by omega)
    rw [show partsF (h + 1) (⟨k, n, v, ps, ks⟩ : Nd (Tr h)) l = RES from hR]
    have HR := Lib.hid hR
    clear hR hks
    go_enter Try.func7, Try.ntmps7
    go_wp2_with fail
    have B9 : Blk (w.alloc (.cells #[.int .i64 k, .string n, .string v, .slice aa ps.length ca, .slice ka ks.length ck] 31)) w.heap.size #[.int .i64 k, .string n, .string v, .slice aa ps.length ca, .slice ka ks.length ck] 31 := Blk.here5 rfl
    have hw1 : Below w.heap.size w (w.alloc (.cells #[.int .i64 k, .string n, .string v, .slice aa ps.length ca, .slice ka ks.length ck] 31)) := (Below.refl _ _).alloc (Nat.le_refl _) _
    generalize w.alloc (.cells #[.int .i64 k, .string n, .string v, .slice aa ps.length ca, .slice ka ks.length ck] 31) = W at *
    have kB := B9.lt
    go_loopg [1, 5] (ks.length + 1) (fun m ll ii wr => ∃ (j : Nat) (q : Int), j ≤ ks.length ∧ m + j = ks.length + 1 ∧ ii = .int .i64 (j : Int) ∧ ll = .int .i64 q ∧ q ≤ 1000000 ∧ Below W.heap.size W wr ∧ Hid (kidsP (partsF h) (ks.drop j) q = RES))
    case atStart => exact ⟨0, _, by omega, by omega, rfl, rfl, by omega, Below.refl _ _, by unfold Hid; rw [List.drop_zero]; exact HR.out⟩
    case round =>
      obtain ⟨j, q, hj, hmj, rfl, rfl, hq4, hbr, HD⟩ := hrel
      have hj0 : (0 : Int) ≤ (j : Int) := Int.natCast_nonneg _
      have hwr := hw1.trans (hbr.mono hw1.size)
      have B := B9.below hbr B9.lt
      obtain ⟨⟨q0, q1, q2, q3, q4⟩, -⟩ := B.five5
      have kq := B.lt
      by_cases hlt : j < ks.length
      · have i0 : decide ((j : Int) < (ks.length : Int)) = true := by simp; omega
        obtain ⟨x, hjx⟩ : ∃ x, ks[j]? = some x := ⟨ks[j], by simp [hlt]⟩
        have hd := HD.out
        rw [kdrop hjx] at hd
        unfold kidsP at hd
        by_cases hq0 : q < 0
        · have i1 : decide ((0 : Int) ≤ q) = false := by simp; omega
          rw [if_pos hq0] at hd
          subst hd
          clear HD hjx HR
          go_wp2_with fail
          go_returns
          exact ⟨rfl, hwr⟩
        · have i1 : decide ((0 : Int) ≤ q) = true := by simp; omega
          rw [if_neg hq0] at hd
          have HD2 := Lib.hid hd
          rcases HK.out with h0 | ⟨b, o, rfl, hb, -, hc⟩
          · rw [h0] at hlt; simp at hlt
          obtain ⟨c0, c1, c2, c3, c4, u0, u1, u2, u3, u4, hx⟩ := hc j x hjx
          have CX := Lib.hid (IH.out x _ wr q (hx.on hwr) (by omega) hq4)
          have hle := partsF_le h x q
          replace u0 := (hwr.cell (p := ⟨b, o + j * 5, none⟩) hb).trans u0
          replace u1 := (hwr.cell (p := ⟨b, o + j * 5 + 1, none⟩) hb).trans u1
          replace u2 := (hwr.cell (p := ⟨b, o + j * 5 + 2, none⟩) hb).trans u2
          replace u3 := (hwr.cell (p := ⟨b, o + j * 5 + 3, none⟩) hb).trans u3
          replace u4 := (hwr.cell (p := ⟨b, o + j * 5 + 4, none⟩) hb).trans u4
          have lb := Nat.lt_of_lt_of_le hb hwr.size
          clear HD hd hc hx hjx IH
          generalize partsF h x q = pq at *
          go_wp2_with (go_at_call 7; with_reducible refine CX.out.mono ?_; rintro e w5 ⟨rfl, hb5⟩
                       have hw5 := hbr.trans (hb5.mono hbr.size)
                       clear hb5 CX)
          go_roundg (gk - 1)
          case measure => omega
          case rel => exact ⟨j + 1, pq, by omega, by omega, by go_num, rfl, by omega, hw5, HD2⟩
      · have i0 : decide ((j : Int) < (ks.length : Int)) = false := by simp; omega
        have hd := HD.out
        rw [List.drop_eq_nil_of_le (by omega)] at hd
        replace hd : q = RES := hd
        subst hd
        clear HD HR
        go_wp2_with fail
        go_returns
        exact ⟨rfl, hwr⟩
set_option maxRecDepth 100000 in
set_option maxHeartbeats 2000000 in
theorem few_any (h : Nat) (most : Int) (a : Option Addr) (c : Nat) (ts : List (Tr h)) (w : World) (hT : TRowT h w a ts) (hl : ts.length ≤ 9223372036854775807) (m0 : 0 ≤ most) (m4 : most ≤ 1000000) :
    Calls Try.prog 5 #[.int .i64 most, .slice a ts.length c] w fun e w' => e = .returned (.bool (fewF h most ts)) ∧ Below w.heap.size w w' := by
  have HK := Lib.hid hT
  obtain ⟨RES, hR⟩ : ∃ r, kidsP (partsF h) ts most = r := ⟨_, rfl⟩
  unfold fewF
  rw [hR]
  have HR := Lib.hid hR
  clear hR hT
  go_enter Try.func5, Try.ntmps5
  go_wp2_with fail
  go_loopg [5, 6] (ts.length + 1) (fun m ll ii wr => ∃ (j : Nat) (q : Int), j ≤ ts.length ∧ m + j = ts.length + 1 ∧ ii = .int .i64 (j : Int) ∧ ll = .int .i64 q ∧ q ≤ 1000000 ∧ Below w.heap.size w wr ∧ Hid (kidsP (partsF h) (ts.drop j) q = RES))
  case atStart => exact ⟨0, _, by omega, by omega, rfl, rfl, by omega, Below.refl _ _, by unfold Hid; rw [List.drop_zero]; exact HR.out⟩
  case round =>
    obtain ⟨j, q, hj, hmj, rfl, rfl, hq4, hwr, HD⟩ := hrel
    have hj0 : (0 : Int) ≤ (j : Int) := Int.natCast_nonneg _
    by_cases hlt : j < ts.length
    · have i0 : decide ((j : Int) < (ts.length : Int)) = true := by simp; omega
      obtain ⟨x, hjx⟩ : ∃ x, ts[j]? = some x := ⟨ts[j], by simp [hlt]⟩
      have hd := HD.out
      rw [kdrop hjx] at hd
      unfold kidsP at hd
      by_cases hq0 : q < 0
      · have i1 : decide ((0 : Int) ≤ q) = false := by simp; omega
        rw [if_pos hq0] at hd
        subst hd
        clear HD hjx HR
        go_wp2_with fail
        go_returns
        exact ⟨by simp only [i1]; rfl, hwr⟩
      · have i1 : decide ((0 : Int) ≤ q) = true := by simp; omega
        rw [if_neg hq0] at hd
        have HD2 := Lib.hid hd
        rcases HK.out with h0 | ⟨b, o, rfl, hb, -, hc⟩
        · rw [h0] at hlt; simp at hlt
        obtain ⟨c0, c1, c2, c3, c4, u0, u1, u2, u3, u4, hx⟩ := hc j x hjx
        have CX := Lib.hid (parts_any h All x _ wr q (hx.on hwr) (by omega) hq4)
        have hle := partsF_le h x q
        replace u0 := (hwr.cell (p := ⟨b, o + j * 5, none⟩) hb).trans u0
        replace u1 := (hwr.cell (p := ⟨b, o + j * 5 + 1, none⟩) hb).trans u1
        replace u2 := (hwr.cell (p := ⟨b, o + j * 5 + 2, none⟩) hb).trans u2
        replace u3 := (hwr.cell (p := ⟨b, o + j * 5 + 3, none⟩) hb).trans u3
        replace u4 := (hwr.cell (p := ⟨b, o + j * 5 + 4, none⟩) hb).trans u4
        have lb := Nat.lt_of_lt_of_le hb hwr.size
        clear HD hd hc hx hjx
        generalize partsF h x q = pq at *
        go_wp2_with (go_at_call 7; with_reducible refine CX.out.mono ?_; rintro e w5 ⟨rfl, hb5⟩
                     have hw5 := hwr.trans (hb5.mono hwr.size)
                     clear hb5 CX)
        go_roundg (gk - 1)
        case measure => omega
        case rel => exact ⟨j + 1, pq, by omega, by omega, by go_num, rfl, by omega, hw5, HD2⟩
    · have i0 : decide ((j : Int) < (ts.length : Int)) = false := by simp; omega
      have hd := HD.out
      rw [List.drop_eq_nil_of_le (by omega)] at hd
      replace hd : q = RES := hd
      subst hd
      clear HD HR
      go_wp2_with fail
      go_returns
      exact ⟨rfl, hwr⟩
theorem Blk.two2 {w : World} {b : Nat} {x y : Value} {t : TypeId} (h : Blk w b #[x, y] t) :
    (w.cell? ⟨b, 0, none⟩ = some x ∧ w.cell? ⟨b, 1, none⟩ = some y) ∧ w.frozen? ⟨b, 0, none⟩ = false ∧ w.frozen? ⟨b, 1, none⟩ = false :=
  ⟨⟨h.cell 0, h.cell 1⟩, h.free 0, h.free 1⟩
theorem tl_eq {s t : ByteArray} : s.toList = t.toList ↔ s = t := by
  rw [Lib.toList_data, Lib.toList_data]
  exact ⟨fun h => ByteArray.ext (Array.ext' h), fun h => by rw [h]⟩
theorem take_one {α : Type} (xs : List α) (j : Nat) (x : α) (h : xs[j]? = some x) : xs.take (j + 1) = xs.take j ++ [x] := by
  rw [List.take_add_one, h]
  rfl
/-- How many nodes and attributes. -/
def sumN {K : Type} (f : K → Nat) : List K → Nat
  | [] => 0
  | k :: r => f k + sumN f r
def cntF : (h : Nat) → Tr h → Nat
  | 0, t => nomatch t
  | h + 1, t => 1 + (Nd.as t).length + sumN (cntF h) (Nd.ks t)
theorem kidsP_cnt {K : Type} {f : K → Int → Int} {c : K → Nat} (hf : ∀ k l, 0 ≤ f k l → (c k : Int) ≤ l - f k l) (hle : ∀ k l, f k l ≤ l - 1) : ∀ ks l, 0 ≤ kidsP f ks l → (sumN c ks : Int) ≤ l - kidsP f ks l
  | [], l, _ => by show (0 : Int) ≤ l - l; omega
  | k :: r, l, h => by
    unfold kidsP at h ⊢
    by_cases hl : l < 0
    · rw [if_pos hl] at h; omega
    · rw [if_neg hl] at h ⊢
      have h1 := kidsP_le hle r (f k l)
      have h2 := hf k l (by omega)
      have h3 := kidsP_cnt hf hle r (f k l) h
      have : (sumN c (k :: r) : Int) = (c k : Int) + (sumN c r : Int) := by show ((c k + sumN c r : Nat) : Int) = _; omega
      omega
theorem partsF_cnt : ∀ h (t : Tr h) l, 0 ≤ partsF h t l → (cntF h t : Int) ≤ l - partsF h t l
  | 0, t, _, _ => nomatch t
  | h + 1, t, l, hp => by
    have hp : 0 ≤ kidsP (partsF h) (Nd.ks t) (l - 1 - (Nd.as t).length) := hp
    have h1 := kidsP_cnt (partsF_cnt h) (partsF_le h) (Nd.ks t) (l - 1 - (Nd.as t).length) hp
    have h2 : (cntF (h + 1) t : Int) = 1 + ((Nd.as t).length : Int) + (sumN (cntF h) (Nd.ks t) : Int) := by show ((1 + (Nd.as t).length + sumN (cntF h) (Nd.ks t) : Nat) : Int) = _; omega
    show (cntF (h + 1) t : Int) ≤ l - kidsP (partsF h) (Nd.ks t) (l - 1 - (Nd.as t).length)
    omega
theorem few_cnt {h : Nat} {n : Int} {ts : List (Tr h)} (hf : fewF h n ts = true) : (sumN (cntF h) ts : Int) ≤ n := by
  have h0 : 0 ≤ kidsP (partsF h) ts n := by simpa [fewF] using hf
  have := kidsP_cnt (partsF_cnt h) (partsF_le h) ts n h0
  omega
end Go.Proofs.Ytgdbbocfiejlfaa
