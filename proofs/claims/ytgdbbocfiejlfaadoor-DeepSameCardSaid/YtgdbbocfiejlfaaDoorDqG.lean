/- The arguments that came in: DeepSame. -/
import Derived.Test.YtgdbbocfiejlfaaDoorDqE
import Derived.Test.YtgdbbocfiejlfaaDoorDqF
set_option linter.unusedVariables false
set_option linter.constructorNameAsVariable false
set_option linter.unusedSimpArgs false
namespace Go.Proofs.YtgdbbocfiejlfaaDoor
open Go.ChangeShapes Go.WideShapes Go.ChangeAt Go.RowKit Go.Joins

set_option maxRecDepth 100000 in
theorem deepsame_any (H : Type) (enc : TypeId × Value → H) (W : World) (base : Nat) (v0 v1 v2 : Value) (d0 d1 d2 : DataW H) (p0 p1 p2 : List MemPlace)
    (hv0 : Value.okWide Tryd.prog W .any base 26 v0) (hv1 : Value.okWide Tryd.prog W .any base 26 v1) (hv2 : Value.okWide Tryd.prog W .any base 26 v2)
    (h0 : DataW.Trod enc Tryd.prog W 0 (fun _ => true) true 26 v0 d0 p0) (h1 : DataW.Trod enc Tryd.prog W 0 (fun _ => true) true 26 v1 d1 p1) (h2 : DataW.Trod enc Tryd.prog W 0 (fun _ => true) true 26 v2 d2 p2) :
    Calls Tryd.prog 4 #[v0, v1, v2] W fun e w' => e = .returned (.bool true) ∧ Below W.heap.size W w' := by
  obtain ⟨M0, g0⟩ := tree_arg hv0 h0
  obtain ⟨M1, g1⟩ := tree_arg hv1 h1
  obtain ⟨M2, g2⟩ := tree_arg hv2 h2
  obtain ⟨a, k, n, s, aa, la, ca, ka, lk, ck, rfl, ha⟩ := g0 (M0 + M1 + M2 + 2) (by omega)
  obtain ⟨b, k2, n2, s2, ab, lb, cb, kb, ll, cl, rfl, hb⟩ := g1 (M0 + M1 + M2 + 2) (by omega)
  obtain ⟨c, k3, n3, s3, ac, lc, cc, kc, lm, cm, rfl, hc⟩ := g2 (M0 + M1 + M2 + 2) (by omega)
  obtain ⟨kk, nn, ss, ps, ks⟩ : Nd (Tr (M0 + M1 + M2 + 1)) := a
  have ha2 := ha
  obtain ⟨x0, x1, x2, x3, HN⟩ := ha2
  have hcell : (#[.int .i64 k, .string n, .string s, .slice aa la ca, .slice ka lk ck] : Array Value) = #[.int .i64 kk, .string nn, .string ss, .slice x0 ps.length x1, .slice x2 ks.length x3] := HN.cells
  rw [hcell] at ha ⊢
  exact samelaw_walk (M0 + M1 + M2) kk nn ss ps ks b c x0 x1 x2 x3 k2 n2 s2 ab lb cb kb ll cl k3 n3 s3 ac lc cc kc lm cm W ha hb hc
end Go.Proofs.YtgdbbocfiejlfaaDoor
