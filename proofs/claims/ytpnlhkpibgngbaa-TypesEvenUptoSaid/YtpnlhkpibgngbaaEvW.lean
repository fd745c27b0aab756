/- TypesEven: the arguments that came in, laid open. -/
import Derived.Test.YtpnlhkpibgngbaaEvL
import Derived.Lib.SmallJoins
import Derived.ProofKit
import Derived.OpenShut
namespace Go.Proofs.Ytpnlhkpibgngbaa
open Go.ChangeShapes Go.WideShapes Go.ChangeAt Go.RowKit Go.Joins

theorem cells25 : Try.prog.cellsOf 25 = 3 := by kernel_rfl
/-- A type that came in: its value written out. -/
theorem open_ty {H : Type} {enc : TypeId × Value → H} {W : World} {base b0 : Nat} {spare : Nat → Bool} {held : Bool} {v : Value} {d : DataW H} {p : List MemPlace} (hv : Value.okWide Try.prog W .any base 25 v) (h : DataW.Trod enc Try.prog W b0 spare held 25 v d p) :
    ∃ (i : Int) (n : ByteArray) (o : Int), v = .agg #[.int .i64 i, .string n, .int .i64 o] ∧ d = .agg [.lit (.int .i64 i), .lit (.string n.data.toList), .lit (.int .i64 o)] ∧ n.size ≤ maxLen := by
  obtain ⟨c0, c1, c2, y0, y1, y2, m, rfl, rfl, rfl, hy0, hy1, hy2⟩ := open_agg3 Try.underlying25 (by kernel_rfl) cells25 hv h
  obtain ⟨a, e0, rfl, wa⟩ := DataW.trod_int Try.underlying22 hy0
  obtain ⟨s, e1, rfl, ws⟩ := DataW.trod_string Try.underlying9 hy1
  obtain ⟨b, e2, rfl, wb⟩ := DataW.trod_int Try.underlying23 hy2
  simp at e0 e1 e2
  subst e0 e1 e2
  exact ⟨a, s, b, rfl, rfl, ws⟩

theorem even_walk (H : Type) (enc : TypeId × Value → H) (W : World) (base : Nat) (v0 v1 v2 : Value) (d0 d1 d2 : DataW H) (p0 p1 p2 : List MemPlace)
   (hv0 : Value.okWide Try.prog W .any base 25 v0) (hv1 : Value.okWide Try.prog W .any base 25 v1) (hv2 : Value.okWide Try.prog W .any base 25 v2)
   (h0 : DataW.Trod enc Try.prog W 0 (fun _ => true) true 25 v0 d0 p0) (h1 : DataW.Trod enc Try.prog W 0 (fun _ => true) true 25 v1 d1 p1) (h2 : DataW.Trod enc Try.prog W 0 (fun _ => true) true 25 v2 d2 p2)
   (hk : Rows.uptoSmall H [d0, d1, d2] = true) : Calls Try.prog 4 #[v0, v1, v2] W fun e w' => e = .returned (.bool true) ∧ Below W.heap.size W w' := by
  obtain ⟨i0, n0, o0, rfl, rfl, s0⟩ := open_ty hv0 h0
  obtain ⟨i1, n1, o1, rfl, rfl, s1⟩ := open_ty hv1 h1
  obtain ⟨i2, n2, o2, rfl, rfl, s2⟩ := open_ty hv2 h2
  have hb := of_decide_eq_true hk
  simp only [Rows.uptoBulkAll, Rows.uptoBulk] at hb
  simp at hb
  exact even_any i0 n0 o0 i1 n1 o1 i2 n2 o2 W (by omega) (by omega) (by omega)
end Go.Proofs.Ytpnlhkpibgngbaa
