/- SeqKeeps: the arguments that came in, laid open. -/
import Derived.Test.YtpnlhkpibgngbaaStM
import Derived.Test.YtpnlhkpibgngbaaSqO
namespace Go.Proofs.Ytpnlhkpibgngbaa
open Go.ChangeShapes Go.WideShapes Go.ChangeAt Go.RowKit Go.Joins

theorem keeps_walk (H : Type) (enc : TypeId × Value → H) (W : World) (base : Nat) (v0 v1 v2 : Value) (d0 d1 d2 : DataW H) (p0 p1 p2 : List MemPlace)
   (hv0 : Value.okWide Try.prog W .any base 33 v0) (hv1 : Value.okWide Try.prog W .any base 3 v1) (hv2 : Value.okWide Try.prog W .any base 4 v2)
   (h0 : DataW.Trod enc Try.prog W 0 (fun _ => true) true 33 v0 d0 p0) (h1 : DataW.Trod enc Try.prog W 0 (fun _ => true) true 3 v1 d1 p1) (h2 : DataW.Trod enc Try.prog W 0 (fun _ => true) true 4 v2 d2 p2) :
   Calls Try.prog 8 #[v0, v1, v2] W fun e w' => e = .returned (.bool true) ∧ Below W.heap.size W w' := by
  obtain ⟨a0, len, cap, rfl⟩ := okWide_slice Try.underlying33 hv0
  obtain ⟨fuel, hf⟩ := h0
  obtain ⟨al, n, cl, xs, e1, hx, hx0, hn, hc⟩ := ints_in hf
  cases e1
  obtain ⟨a, rfl⟩ := okWide_int Try.underlying3 hv1
  obtain ⟨b, rfl⟩ := okWide_bool Try.underlying4 hv2
  exact keeps_any _ _ _ xs a b W (fun h => hx (by omega)) hn
end Go.Proofs.Ytpnlhkpibgngbaa
