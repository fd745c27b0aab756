/- The arguments of CmpPairs. -/
import Derived.Test.YtaoobajokhcimaaGreatDoorCpPb
import Derived.Test.YtaoobajokhcimaaGreatDoorCpJ
import Derived.OpenShut
set_option linter.unusedVariables false
set_option linter.constructorNameAsVariable false
set_option linter.unusedSimpArgs false
namespace Go.Proofs.YtaoobajokhcimaaGreatDoor
open Go.ChangeShapes Go.WideShapes Go.ChangeAt Go.RowKit Go.Joins

theorem pairs_walk (op : Int) (a c : At) (ad : Option Addr) (cap : Nat) (xs : List At) (m : Int) (w : World) (hL : Laid m w) (hX : TRow w ad xs) (hnil : ad = none → cap = 0) (hl : xs.length ≤ 1048576) (ht : a.t.size ≤ 1100000) (hu : c.t.size ≤ 1100000) (hs : ∀ x ∈ xs, x.t.size ≤ 2000000) :
    Calls Tryz.prog 10 #[.int .i64 op, .agg #[.int .i64 a.k, .int .i64 a.n, .int .i64 a.s, .string a.t, .bool a.b, .int .i64 c.k, .int .i64 c.n, .int .i64 c.s, .string c.t, .bool c.b], .slice ad xs.length cap] w fun e w' => e = .returned (.bool true) ∧ Below w.heap.size w w' :=
  pairs_main op a.k a.n a.s a.t a.b c.k c.n c.s c.t c.b ad cap xs w hX hnil hl (rightA a) (rightA c) (xs.all rightA)
    (fun w' hb => awake4_any m w' (hL.on hb))
    (fun w' => rright_any a.k a.n a.s a.t a.b (by omega) w') (fun w' => rright_any c.k c.n c.s c.t c.b (by omega) w')
    (fun w' hb => lright_any ad cap xs w' (hX.on hb) (by omega) hs)
    (fun h1 h2 w' => value_any op a c (rightA_RA h1) (rightA_RA h2) w')
    (fun h1 h2 h3 O ys zs l1 l2 hy hz a1 a2 c1 c2 w' hb t1 t2 => general_any O a1 a2 c1 c2 ys zs m w' (hL.on hb) t1 t2 l1 l2
      (fun y hy' => by
        rcases hy y hy' with rfl | h
        · exact ⟨rightA_RA h1, by show a.t.size ≤ _; omega⟩
        · exact ⟨rightA_RA (List.all_eq_true.1 h3 y h), hs y h⟩)
      (fun y hy' => by
        rcases hz y hy' with rfl | h
        · exact ⟨rightA_RA h2, by show c.t.size ≤ _; omega⟩
        · exact ⟨rightA_RA (List.all_eq_true.1 h3 y h), hs y h⟩))
theorem array10 {cs : Array Value} (h : cs.size = 10) : ∃ a b c d e f g i j k, cs = #[a, b, c, d, e, f, g, i, j, k] := by
  obtain ⟨l⟩ := cs
  match l, h with
  | [a, b, c, d, e, f, g, i, j, k], _ => exact ⟨a, b, c, d, e, f, g, i, j, k, rfl⟩
theorem cells2 : Tryz.prog.cellsOf 59 = 10 := by kernel_rfl
theorem atom_bulk2 {H : Type} {k n s : Int} {t : ByteArray} {b : Bool} : t.size ≤ Rows.uptoBulk (H := H) (.agg [.lit (.int .i64 k), .lit (.int .i64 n), .lit (.int .i64 s), .lit (.string t.data.toList), .lit (.bool b)]) := by
  simp only [Rows.uptoBulkAll, Rows.uptoBulk]
  simp
  omega
set_option maxRecDepth 100000 in
theorem op_in3 {H : Type} {enc : TypeId × Value → H} {W : World} {base : Nat} {v : Value} {d : DataW H} {p : List MemPlace} (hv : Value.okWide Tryz.prog W .any base 45 v) (h : DataW.Trod enc Tryz.prog W 0 (fun _ => true) true 45 v d p) :
    ∃ k : Int, v = .int .i64 k ∧ d = .lit (.int .i64 k) := by
  obtain ⟨k, rfl, rfl, -⟩ := open_int Tryz.underlying45 hv h
  exact ⟨k, rfl, rfl⟩
set_option maxRecDepth 100000 in
theorem two_in {H : Type} {enc : TypeId × Value → H} {W : World} {base : Nat} {v : Value} {d : DataW H} {p : List MemPlace} (hv : Value.okWide Tryz.prog W .any base 59 v) (h : DataW.Trod enc Tryz.prog W 0 (fun _ => true) true 59 v d p) :
    ∃ a c : At, v = .agg #[.int .i64 a.k, .int .i64 a.n, .int .i64 a.s, .string a.t, .bool a.b, .int .i64 c.k, .int .i64 c.n, .int .i64 c.s, .string c.t, .bool c.b] ∧ a.t.size ≤ Rows.uptoBulk d ∧ c.t.size ≤ Rows.uptoBulk d := by
  obtain ⟨cs, rfl, hsz, _⟩ : ∃ cs, v = .agg cs ∧ cs.size = Tryz.prog.cellsOf 59 ∧ Row.okWide Tryz.prog W .any base 59 cs := by
    simpa [Value.okWide, Tryz.underlying59] using hv
  rw [cells2] at hsz
  obtain ⟨c0, c1, c2, c3, c4, d0, d1, d2, d3, d4, rfl⟩ := array10 hsz
  obtain ⟨fuel, hf⟩ := h
  obtain ⟨xs, m, -, hx, -, hlen, hel⟩ := DataW.trod_array Tryz.underlying59 hf
  match xs, hlen with
  | [x0, x1], _ =>
    have h0 : DataW.trod enc Tryz.prog W 0 (fun _ => true) true m 24 [c0, c1, c2, c3, c4] = some x0 := by simpa [cellsAtom, Value.cells] using hel 0 (by omega)
    have h1 : DataW.trod enc Tryz.prog W 0 (fun _ => true) true m 24 [d0, d1, d2, d3, d4] = some x1 := by simpa [cellsAtom, Value.cells] using hel 1 (by omega)
    obtain ⟨k, n, s, t, b, rfl, rfl, rfl, rfl, rfl, e0, -⟩ := atom_trod h0
    obtain ⟨k2, n2, s2, t2, b2, rfl, rfl, rfl, rfl, rfl, e1, -⟩ := atom_trod h1
    obtain ⟨hd, -⟩ := Prod.mk.inj hx
    have q0 := atom_bulk2 (H := H) (k := k) (n := n) (s := s) (t := t) (b := b)
    have q1 := atom_bulk2 (H := H) (k := k2) (n := n2) (s := s2) (t := t2) (b := b2)
    refine ⟨⟨k, n, s, t, b⟩, ⟨k2, n2, s2, t2, b2⟩, rfl, ?_, ?_⟩
    · rw [hd]
      simp only [List.map_cons, List.map_nil, e0, e1]
      have e : ∀ (x y : DataW H), Rows.uptoBulk (.agg [x, y]) = Rows.uptoBulkAll [x, y] + 1 := fun x y => by simp only [Rows.uptoBulk]
      rw [e]
      simp only [Rows.uptoBulkAll]
      show t.size ≤ _
      omega
    · rw [hd]
      simp only [List.map_cons, List.map_nil, e0, e1]
      have e : ∀ (x y : DataW H), Rows.uptoBulk (.agg [x, y]) = Rows.uptoBulkAll [x, y] + 1 := fun x y => by simp only [Rows.uptoBulk]
      rw [e]
      simp only [Rows.uptoBulkAll]
      show t2.size ≤ _
      omega
set_option maxRecDepth 100000 in
theorem pairs_args (H : Type) (enc : TypeId × Value → H) (W : World) (base : Nat) (v0 v1 v2 : Value) (d0 d1 d2 : DataW H) (p0 p1 p2 : List MemPlace)
    (hv0 : Value.okWide Tryz.prog W .any base 45 v0) (hv1 : Value.okWide Tryz.prog W .any base 59 v1) (hv2 : Value.okWide Tryz.prog W .any base 46 v2)
    (h0 : DataW.Trod enc Tryz.prog W 0 (fun _ => true) true 45 v0 d0 p0) (h1 : DataW.Trod enc Tryz.prog W 0 (fun _ => true) true 59 v1 d1 p1) (h2 : DataW.Trod enc Tryz.prog W 0 (fun _ => true) true 46 v2 d2 p2) (hk : Rows.uptoSmall H [d0, d1, d2] = true)
    (m : Int) (hL : Laid m W) : Calls Tryz.prog 10 #[v0, v1, v2] W fun e w' => e = .returned (.bool true) ∧ Below W.heap.size W w' := by
  obtain ⟨op, rfl, -⟩ := op_in3 hv0 h0
  obtain ⟨a, c, rfl, ha, hc⟩ := two_in hv1 h1
  obtain ⟨a0', len', cap', rfl⟩ := okWide_slice Tryz.underlying46 hv2
  obtain ⟨fuel', hf'⟩ := h2
  obtain ⟨b, d, ys, e', hB, hn', hl', hs'⟩ := atoms_in hf'
  simp only at hl' hs'
  have hb := of_decide_eq_true hk
  simp only [Rows.uptoBulkAll] at hb
  rw [e']
  exact pairs_walk op a c b d ys m W hL hB hn' (by omega) (by omega) (by omega) (fun x hx => by have := hs' x hx; omega)
end Go.Proofs.YtaoobajokhcimaaGreatDoor
