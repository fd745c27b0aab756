/- The arguments that came in: trees; DeepTrees. -/
import Derived.Test.YtgdbbocfiejlfaaDoorDqD
import Derived.Test.YtgdbbocfiejlfaaDoorDpR
import Derived.Lib.SmallJoins
import Derived.OpenShut
import Derived.ProofKit
set_option linter.unusedVariables false
set_option linter.constructorNameAsVariable false
set_option linter.unusedSimpArgs false
namespace Go.Proofs.YtgdbbocfiejlfaaDoor
open Go.ChangeShapes Go.WideShapes Go.ChangeAt Go.RowKit Go.Joins

set_option maxRecDepth 100000 in
theorem tree_arg {H : Type} {enc : TypeId × Value → H} {W : World} {base : Nat} {v : Value} {d : DataW H} {p : List MemPlace} (hv : Value.okWide Tryd.prog W .any base 26 v) (h : DataW.Trod enc Tryd.prog W 0 (fun _ => true) true 26 v d p) :
    ∃ M, ∀ N, M ≤ N → ∃ (t : Tr N) (k : Int) (n s : ByteArray) (aa : Option Addr) (la ca : Nat) (ka : Option Addr) (lk ck : Nat), v = .agg #[.int .i64 k, .string n, .string s, .slice aa la ca, .slice ka lk ck] ∧ TLies All N W t #[.int .i64 k, .string n, .string s, .slice aa la ca, .slice ka lk ck] := by
  have hS : ∃ fs, Tryd.prog.underlying 26 = some (.struct fs) := ⟨_, Tryd.underlying26⟩
  obtain ⟨fs, hS⟩ := hS
  obtain ⟨cs, rfl, hsz⟩ := okWide_struct hS hv
  obtain ⟨fuel, hf⟩ := h
  refine ⟨fuel, fun N hN => ?_⟩
  obtain ⟨t, ht⟩ := tree_in N fuel hN _ _ hf
  have ht : TLies All N W t cs := by simpa [Value.cells] using ht
  obtain ⟨c0, c1, c2, c3, c4, rfl⟩ := arr5T ht.size
  obtain ⟨k, n, s, aa, la, ca, ka, lk, ck, rfl, rfl, rfl, rfl, rfl⟩ := ht.shape
  exact ⟨t, k, n, s, aa, la, ca, ka, lk, ck, rfl, ht⟩
set_option maxRecDepth 100000 in
theorem deeptrees_any (H : Type) (enc : TypeId × Value → H) (W : World) (base : Nat) (v0 v1 : Value) (d0 d1 : DataW H) (p0 p1 : List MemPlace)
    (hv0 : Value.okWide Tryd.prog W .any base 26 v0) (hv1 : Value.okWide Tryd.prog W .any base 26 v1)
    (h0 : DataW.Trod enc Tryd.prog W 0 (fun _ => true) true 26 v0 d0 p0) (h1 : DataW.Trod enc Tryd.prog W 0 (fun _ => true) true 26 v1 d1 p1) :
    Calls Tryd.prog 3 #[v0, v1] W fun e w' => e = .returned (.bool true) ∧ Below W.heap.size W w' := by
  obtain ⟨M0, g0⟩ := tree_arg hv0 h0
  obtain ⟨M1, g1⟩ := tree_arg hv1 h1
  obtain ⟨a, k, n, s, aa, la, ca, ka, lk, ck, rfl, ha⟩ := g0 (M0 + M1) (by omega)
  obtain ⟨b, k2, n2, s2, ab, lb, cb, kb, ll, cl, rfl, hb⟩ := g1 (M0 + M1) (by omega)
  exact treeslaw_walk (M0 + M1) a b k n s aa la ca ka lk ck k2 n2 s2 ab lb cb kb ll cl W ha hb
end Go.Proofs.YtgdbbocfiejlfaaDoor
