/- SeqCuts: the arguments that came in, laid open. -/
import Derived.Test.YtpnlhkpibgngbaaSqL
import Derived.Test.YtpnlhkpibgngbaaSqO
namespace Go.Proofs.Ytpnlhkpibgngbaa
open Go.ChangeShapes Go.WideShapes Go.ChangeAt Go.RowKit Go.Joins

theorem cells35 : Try.prog.cellsOf 35 = 3 := by kernel_rfl
theorem cuts_walk (H : Type) (enc : TypeId × Value → H) (W : World) (base : Nat) (v0 v1 : Value) (d0 d1 : DataW H) (p0 p1 : List MemPlace)
   (hv0 : Value.okWide Try.prog W .any base 33 v0) (hv1 : Value.okWide Try.prog W .any base 35 v1)
   (h0 : DataW.Trod enc Try.prog W 0 (fun _ => true) true 33 v0 d0 p0) (h1 : DataW.Trod enc Try.prog W 0 (fun _ => true) true 35 v1 d1 p1) :
   Calls Try.prog 5 #[v0, v1] W fun e w' => e = .returned (.bool true) ∧ Below W.heap.size W w' := by
  obtain ⟨a0, len, cap, rfl⟩ := okWide_slice Try.underlying33 hv0
  obtain ⟨fuel, hf⟩ := h0
  obtain ⟨al, n, cl, xs, e1, hx, hx0, hn, hc⟩ := ints_in hf
  cases e1
  obtain ⟨c0, c1, c2, y0, y1, y2, m, rfl, rfl, rfl, hy0, hy1, hy2⟩ := open_agg3 Try.underlying35 (by kernel_rfl) cells35 hv1 h1
  obtain ⟨a, rfl, ha1, ha2⟩ := int_in hy0
  obtain ⟨b, rfl, hb1, hb2⟩ := int_in hy1
  obtain ⟨am, k, cm, ys, rfl, hy, hy00, hk, hck⟩ := ints_in hy2
  exact cuts_any _ am _ _ k cm xs ys a b W (fun h => hx (by omega)) (fun h => hy (by omega)) hx0 hy00 hn hc ha1 hb2
end Go.Proofs.Ytpnlhkpibgngbaa
