/- How long a text may be; the document's examples. -/
import Derived.Test.YtgdbbocfiejlfaaSeN
import Derived.Test.YtgdbbocfiejlfaaDpC
set_option linter.unusedSimpArgs false
set_option linter.unusedVariables false
set_option linter.constructorNameAsVariable false
namespace Go.Proofs.Ytgdbbocfiejlfaa
open Go.RowKit

theorem look6 (ps : Tab) (hp : ∀ p ∈ ps, p.2.length ≤ 6) (c : UInt8) : ((lookT ps c).getD [c]).length ≤ 6 := by
  cases e : lookT ps c with
  | none => simp
  | some r =>
    have : ∃ p ∈ ps, p.2 = r := by
      unfold lookT at e
      simp only [Option.map_eq_some_iff] at e
      obtain ⟨p, h1, h2⟩ := e
      exact ⟨p, List.mem_of_find?_eq_some h1, h2⟩
    obtain ⟨p, h1, rfl⟩ := this
    exact hp p h1
theorem esc6 (ps : Tab) (hp : ∀ p ∈ ps, p.2.length ≤ 6) : ∀ s : List UInt8, (escF ps s).length ≤ 6 * s.length
  | [] => by simp [escF]
  | c :: s => by
    rw [escF_cons, List.length_append, List.length_cons]
    have := look6 ps hp c
    have := esc6 ps hp s
    omega
theorem bsl_len (s : ByteArray) : (bsl s).length = s.size := by simp [bsl]
/-- How many bytes an attribute, a tree, holds. -/
def totP (p : Pr) : Nat := p.1.size + p.2.size
def totF : (h : Nat) → Tr h → Nat
  | 0, t => nomatch t
  | h + 1, t => (Nd.n t).size + (Nd.v t).size + sumN totP (Nd.as t) + sumN (totF h) (Nd.ks t)
theorem sum_mem {K : Type} (f : K → Nat) : ∀ (ks : List K) (k : K), k ∈ ks → f k ≤ sumN f ks
  | [], k, h => nomatch h
  | x :: r, k, h => by
    show f k ≤ f x + sumN f r
    rcases List.mem_cons.1 h with rfl | h
    · omega
    · have := sum_mem f r k h
      omega
theorem attr_len (p : Pr) : (attrF p).length ≤ 16 + totP p * 6 := by
  have e := esc6 tabV (by decide) (bsl p.2)
  have e1 := bsl_len p.1
  have e2 := bsl_len p.2
  unfold bsl at e1 e2
  have : (attrF p).length = 1 + p.1.data.toList.length + 2 + (escF tabV (bsl p.2)).length + 1 := by
    simp [attrF, catF]
    omega
  rw [bsl_len] at e
  unfold totP
  omega
theorem attrs_len : ∀ ps : List Pr, (attrsO ps).length ≤ ps.length * 16 + sumN totP ps * 6
  | [] => by simp [attrsO]
  | p :: r => by
    have h1 := attr_len p
    have h2 := attrs_len r
    have : (attrsO (p :: r)).length = (attrF p).length + (attrsO r).length := by simp [attrsO]
    rw [this, List.length_cons]
    show _ ≤ _ + (totP p + sumN totP r) * 6
    omega
theorem flat_len {K : Type} (f : K → List UInt8) (g q : K → Nat) (h : ∀ k, (f k).length ≤ g k * 16 + q k * 6) : ∀ ks : List K, (ks.flatMap f).length ≤ sumN g ks * 16 + sumN q ks * 6
  | [] => by simp [sumN]
  | k :: r => by
    have h1 := h k
    have h2 := flat_len f g q h r
    show ((k :: r).flatMap f).length ≤ (g k + sumN g r) * 16 + (q k + sumN q r) * 6
    rw [List.flatMap_cons, List.length_append]
    omega
theorem node_len {K : Type} (f : K → List UInt8) (t : Nd K) (m q : Nat) (hk : (t.ks.flatMap f).length ≤ m * 16 + q * 6) :
    (nodeO f t).length ≤ (1 + t.as.length + m) * 16 + (t.n.size + t.v.size + sumN totP t.as + q) * 6 := by
  have e := esc6 tabE (by decide) (bsl t.v)
  have e1 := bsl_len t.n
  have e2 := bsl_len t.v
  have e3 := attrs_len t.as
  rw [bsl_len] at e
  unfold bsl at e1 e2
  unfold nodeO
  split
  · omega
  · split
    · rw [List.length_append, List.length_append]
      have q1 : (catF [⟨#[60]⟩, t.n]).length = 1 + t.n.data.toList.length := by simp [catF]; omega
      have q2 : (catF [⟨#[47, 62]⟩]).length = 2 := rfl
      have q3 : (catF [⟨#[62]⟩]).length = 1 := rfl
      have q4 : (catF [⟨#[60, 47]⟩, t.n, ⟨#[62]⟩]).length = 2 + t.n.data.toList.length + 1 := by simp [catF]; omega
      split
      · omega
      · rw [List.length_append, List.length_append]
        omega
    · split
      · have q : (catF [⟨(escF tabE (bsl t.v)).toArray⟩]).length = (escF tabE (bsl t.v)).length := by simp [catF]
        omega
      · split
        · have q : (catF [⟨#[60, 33, 45, 45]⟩, t.v, ⟨#[45, 45, 62]⟩]).length = 4 + t.v.data.toList.length + 3 := by simp [catF]; omega
          omega
        · simp
theorem out_len : ∀ (h : Nat) (t : Tr h), (outF h t).length ≤ cntF h t * 16 + totF h t * 6
  | 0, t => nomatch t
  | h + 1, t => node_len (outF h) t _ _ (flat_len (outF h) (cntF h) (totF h) (out_len h) _)
theorem outs_len (h : Nat) (ts : List (Tr h)) : (outs h ts).length ≤ sumN (cntF h) ts * 16 + sumN (totF h) ts * 6 := flat_len (outF h) (cntF h) (totF h) (out_len h) ts
theorem str_tot (L : Nat) : ∀ (h : Nat) (t : Tr h), totF h t ≤ L → StrOk L h t
  | 0, t, _ => nomatch t
  | h + 1, t, hL => by
    have hL : (Nd.n t).size + (Nd.v t).size + sumN totP (Nd.as t) + sumN (totF h) (Nd.ks t) ≤ L := hL
    refine ⟨by omega, by omega, fun p hp => ?_, fun k hk => ?_⟩
    · have q : p.1.size + p.2.size ≤ sumN totP (Nd.as t) := sum_mem totP (Nd.as t) p hp
      omega
    · have q : totF h k ≤ sumN (totF h) (Nd.ks t) := sum_mem (totF h) (Nd.ks t) k hk
      exact str_tot L h k (by omega)
theorem outs_one (h : Nat) (x : Tr h) : outs h [x] = outF h x := by simp [outs]
theorem oks_one (h : Nat) (x : Tr h) : oks h [x] = okF h x := by simp [oks]
theorem outF_le (h : Nat) (ts : List (Tr h)) (x : Tr h) (hx : x ∈ ts) : (outF h x).length ≤ (outs h ts).length := by
  obtain ⟨a, b, rfl⟩ := List.append_of_mem hx
  simp [outs]
  omega
/-- The attribute. -/
def attrT (h : Nat) : Tr (h + 1) := (⟨3, ⟨#[120]⟩, ⟨#[]⟩, [], []⟩ : Nd (Tr h))
theorem attrT_out (h : Nat) : outF (h + 1) (attrT h) = [] := rfl
theorem attrT_ok (h : Nat) : okF (h + 1) (attrT h) = false := rfl
theorem size_x : (⟨#[120]⟩ : ByteArray).size ≤ 1048576 := by decide
theorem size_0 : (⟨#[]⟩ : ByteArray).size ≤ 1048576 := by decide
theorem attrT_str (h : Nat) : StrOk 1048576 (h + 1) (attrT h) := ⟨size_x, size_0, (fun p hp => nomatch hp), (fun k hk => nomatch hk)⟩
theorem attrT_lies (S : Nat → Prop) (h : Nat) (w : World) : TLies S (h + 1) w (attrT h) #[.int .i64 3, .string ⟨#[120]⟩, .string ⟨#[]⟩, .slice none 0 0, .slice none 0 0] :=
  ⟨none, 0, none, 0, rfl, fun _ => rfl, fun _ => rfl, by show (0 : Nat) ≤ _; omega, by show (0 : Nat) ≤ _; omega, .inl rfl, .inl rfl⟩
def kidT : Tr 1 := (⟨4, ⟨#[]⟩, ⟨#[49, 62, 48]⟩, [], []⟩ : Nd (Tr 0))
def elemT : Tr 2 := (⟨2, ⟨#[97]⟩, ⟨#[]⟩, [(⟨#[120]⟩, ⟨#[60]⟩)], [kidT]⟩ : Nd (Tr 1))
theorem elem_text : textO 2 [elemT] = [60, 97, 32, 120, 61, 34, 38, 108, 116, 59, 34, 62, 49, 38, 103, 116, 59, 48, 60, 47, 97, 62] := by decide +kernel
theorem elem_err : errO 2 [elemT] = 0 := by decide +kernel
theorem attr_err : errO 1 [attrT 0] = 57 := by decide +kernel
theorem elem_str : StrOk 1048576 2 elemT := by
  refine ⟨by decide, by decide, fun p hp => ?_, fun k hk => ?_⟩
  · obtain rfl : p = (⟨#[120]⟩, ⟨#[60]⟩) := by simpa [elemT] using hp
    exact ⟨by decide, by decide⟩
  · obtain rfl : k = kidT := by simpa [elemT] using hk
    exact ⟨by decide, by decide, (fun p hp => nomatch hp), (fun k hk => nomatch hk)⟩
theorem elem_len : (outs 2 [elemT]).length ≤ 140737488355328 := by
  have : (outs 2 [elemT]).length = 22 := by decide +kernel
  omega
theorem five_row {h : Nat} {w : World} {g : Nat} {x : Tr h} {c0 c1 c2 c3 c4 : Value} (hB : Blk w g #[c0, c1, c2, c3, c4] 31) (hx : TLies All h w x #[c0, c1, c2, c3, c4]) : KRow All (TLies All h w) w (some ⟨g, 0, none⟩) [x] :=
  .inr ⟨g, 0, rfl, hB.lt, trivial, fun j y hj => by
    cases j with
    | zero =>
      simp at hj
      subst hj
      exact ⟨c0, c1, c2, c3, c4, hB.cell 0, hB.cell 1, hB.cell 2, hB.cell 3, hB.cell 4, hx⟩
    | succ j => simp at hj⟩
theorem elem_row (w : World) : ∃ W, W = (((w.alloc (.cells #[.string ⟨#[120]⟩, .string ⟨#[60]⟩] 34)).alloc (.cells #[.int .i64 4, .string ⟨#[]⟩, .string ⟨#[49, 62, 48]⟩, .slice none 0 0, .slice none 0 0] 31)).alloc (.cells #[.int .i64 2, .string ⟨#[97]⟩, .string ⟨#[]⟩, .slice (some ⟨w.heap.size, 0, none⟩) 1 1, .slice (some ⟨w.heap.size + 1, 0, none⟩) 1 1] 31)) ∧
    KRow All (TLies All 2 W) W (some ⟨w.heap.size + 1 + 1, 0, none⟩) [elemT] ∧ Below w.heap.size w W := by
  refine ⟨_, rfl, ?_, (((Below.refl _ _).alloc (Nat.le_refl _) _).alloc (by simp) _).alloc (by simp; omega) _⟩
  have B0 : Blk (((w.alloc (.cells #[.string ⟨#[120]⟩, .string ⟨#[60]⟩] 34)).alloc (.cells #[.int .i64 4, .string ⟨#[]⟩, .string ⟨#[49, 62, 48]⟩, .slice none 0 0, .slice none 0 0] 31)).alloc (.cells #[.int .i64 2, .string ⟨#[97]⟩, .string ⟨#[]⟩, .slice (some ⟨w.heap.size, 0, none⟩) 1 1, .slice (some ⟨w.heap.size + 1, 0, none⟩) 1 1] 31)) w.heap.size #[.string ⟨#[120]⟩, .string ⟨#[60]⟩] 34 := ((Blk.new w _ _).alloc _).alloc _
  have B1 : Blk (((w.alloc (.cells #[.string ⟨#[120]⟩, .string ⟨#[60]⟩] 34)).alloc (.cells #[.int .i64 4, .string ⟨#[]⟩, .string ⟨#[49, 62, 48]⟩, .slice none 0 0, .slice none 0 0] 31)).alloc (.cells #[.int .i64 2, .string ⟨#[97]⟩, .string ⟨#[]⟩, .slice (some ⟨w.heap.size, 0, none⟩) 1 1, .slice (some ⟨w.heap.size + 1, 0, none⟩) 1 1] 31)) (w.heap.size + 1) #[.int .i64 4, .string ⟨#[]⟩, .string ⟨#[49, 62, 48]⟩, .slice none 0 0, .slice none 0 0] 31 := by
    have := (Blk.new (w.alloc (.cells #[.string ⟨#[120]⟩, .string ⟨#[60]⟩] 34)) #[.int .i64 4, .string ⟨#[]⟩, .string ⟨#[49, 62, 48]⟩, .slice none 0 0, .slice none 0 0] 31).alloc (.cells #[.int .i64 2, .string ⟨#[97]⟩, .string ⟨#[]⟩, .slice (some ⟨w.heap.size, 0, none⟩) 1 1, .slice (some ⟨w.heap.size + 1, 0, none⟩) 1 1] 31)
    simpa using this
  have B2 : Blk (((w.alloc (.cells #[.string ⟨#[120]⟩, .string ⟨#[60]⟩] 34)).alloc (.cells #[.int .i64 4, .string ⟨#[]⟩, .string ⟨#[49, 62, 48]⟩, .slice none 0 0, .slice none 0 0] 31)).alloc (.cells #[.int .i64 2, .string ⟨#[97]⟩, .string ⟨#[]⟩, .slice (some ⟨w.heap.size, 0, none⟩) 1 1, .slice (some ⟨w.heap.size + 1, 0, none⟩) 1 1] 31)) (w.heap.size + 1 + 1) #[.int .i64 2, .string ⟨#[97]⟩, .string ⟨#[]⟩, .slice (some ⟨w.heap.size, 0, none⟩) 1 1, .slice (some ⟨w.heap.size + 1, 0, none⟩) 1 1] 31 := by
    have := Blk.new ((w.alloc (.cells #[.string ⟨#[120]⟩, .string ⟨#[60]⟩] 34)).alloc (.cells #[.int .i64 4, .string ⟨#[]⟩, .string ⟨#[49, 62, 48]⟩, .slice none 0 0, .slice none 0 0] 31)) #[.int .i64 2, .string ⟨#[97]⟩, .string ⟨#[]⟩, .slice (some ⟨w.heap.size, 0, none⟩) 1 1, .slice (some ⟨w.heap.size + 1, 0, none⟩) 1 1] 31
    simpa using this
  refine five_row B2 ⟨some ⟨w.heap.size, 0, none⟩, 1, some ⟨w.heap.size + 1, 0, none⟩, 1, rfl, (fun h => nomatch h), (fun h => nomatch h), by show (1 : Nat) ≤ _; omega, by show (1 : Nat) ≤ _; omega, .inr ⟨w.heap.size, 0, rfl, B0.lt, trivial, fun j x hj => ?_⟩, five_row B1 ⟨none, 0, none, 0, rfl, fun _ => rfl, fun _ => rfl, by show (0 : Nat) ≤ _; omega, by show (0 : Nat) ≤ _; omega, .inl rfl, .inl rfl⟩⟩
  cases j with
  | zero =>
    have : x = ((⟨#[120]⟩, ⟨#[60]⟩) : Pr) := by simpa [elemT] using hj.symm
    subst this
    exact ⟨B0.cell 0, B0.cell 1⟩
  | succ j => simp [elemT] at hj
theorem stree_one (h : Nat) (x : Tr h) (a : Option Addr) (c : Nat) (w : World) (m : Int) (hT : KRow All (TLies All h w) w a [x]) (hst : StrOk 1048576 h x) (hlen : (outF h x).length ≤ 140737488355328) (hm : w.cell? ⟨0, 0, none⟩ = some (.int .i64 m)) :
    Calls Try.prog 6 #[.slice a 1 c] w fun e w' => e = .returned (.tuple #[.string ⟨(textO h [x]).toArray⟩, .int .i64 (errO h [x])]) ∧ Below w.heap.size w w' :=
  stree_any h [x] a c w m hT (by show (1 : Nat) ≤ _; omega) (fun t ht => by rw [List.mem_singleton] at ht; rw [ht]; exact hst) (by rw [outs_one]; exact hlen) hm
theorem elem_len1 : (outF 2 elemT).length ≤ 140737488355328 := by
  have : (outF 2 elemT).length = 22 := by decide +kernel
  omega
set_option maxRecDepth 100000 in
set_option maxHeartbeats 1600000 in
theorem awake_any (w : World) (m : Int) (hm : w.cell? ⟨0, 0, none⟩ = some (.int .i64 m)) :
    Calls Try.prog 4 #[] w fun e w' => e = .returned (.bool true) ∧ Below w.heap.size w w' := by
  have h0 : 0 < w.heap.size := by
    rcases Nat.eq_zero_or_pos w.heap.size with h9 | h9
    · simp [World.cell?, Array.getElem?_eq_none (show w.heap.size ≤ 0 by omega)] at hm
    · exact h9
  obtain ⟨W, hW, hR, hB⟩ := elem_row w
  have CA := Lib.hid (stree_one 2 elemT _ 1 W m hR elem_str elem_len1 ((hB.cell (p := ⟨0, 0, none⟩) h0).trans hm))
  have CB := Lib.hid (fun (V : World) (hV : Below w.heap.size w V) => stree_one 1 (attrT 0) _ 1 (V.alloc (.cells #[.int .i64 3, .string ⟨#[120]⟩, .string ⟨#[]⟩, .slice none 0 0, .slice none 0 0] 31)) m (five_row (Blk.new V _ _) (attrT_lies All 0 _)) (attrT_str 0) (by show (0 : Nat) ≤ _; omega) ((((hV.alloc hV.size _).cell (p := ⟨0, 0, none⟩) h0)).trans hm))
  rw [elem_text, elem_err] at CA
  rw [attr_err] at CB
  have hbw := Lib.hid hB
  clear hR hm hB
  go_enter Try.func4, Try.ntmps4
  go_wp2_with fail
  subst hW
  with_reducible refine CA.out.mono ?_
  rintro e w1 ⟨rfl, hb1⟩
  have hw1 := hbw.out.trans (hb1.mono hbw.out.size)
  clear CA hb1
  go_wp2_with fail
  with_reducible refine (CB.out w1 hw1).mono ?_
  rintro e w2 ⟨rfl, hb2⟩
  have hw2 := hw1.trans (((Below.refl _ _).alloc hw1.size _).trans (hb2.mono (by simp; have := hw1.size; omega)))
  clear CB hb2
  go_wp2_with fail
  go_returns
  exact ⟨rfl, hw2⟩
end Go.Proofs.Ytgdbbocfiejlfaa
