/- The law's awake. -/
import Derived.Test.YtgdbbocfiejlfaaDoorDpY
import Derived.Test.YtgdbbocfiejlfaaDoorDpL
set_option linter.unusedSimpArgs false
set_option linter.unusedVariables false
set_option linter.constructorNameAsVariable false
namespace Go.Proofs.YtgdbbocfiejlfaaDoor
open Go.RowKit

/-- The literal trees. -/
def litA (ps : List Pr) (n : ByteArray) : Tr 1 := (⟨2, n, ⟨#[]⟩, ps, []⟩ : Nd (Tr 0))
theorem litA_lies (w : World) (n : ByteArray) (q : Nat) (s1 t1 s2 t2 : ByteArray) (hB : Blk w q #[.string s1, .string t1, .string s2, .string t2] 33) :
    TLies All 1 w (litA [(s1, t1), (s2, t2)] n) #[.int .i64 2, .string n, .string ⟨#[]⟩, .slice (some ⟨q, 0, none⟩) 2 2, .slice none 0 0] := by
  refine ⟨_, _, _, _, rfl, (fun h => by cases h), fun _ => rfl, (show (2 : Nat) ≤ 9223372036854775807 by decide), (show (0 : Nat) ≤ 9223372036854775807 by decide), .inr ⟨q, 0, rfl, hB.lt, trivial, fun j x hj => ?_⟩, .inl rfl⟩
  match j, hj with
  | 0, hj =>
    obtain rfl : (s1, t1) = x := by simpa [litA] using hj
    exact ⟨hB.cell 0, hB.cell 1⟩
  | 1, hj =>
    obtain rfl : (s2, t2) = x := by simpa [litA] using hj
    exact ⟨hB.cell 2, hB.cell 3⟩
  | j + 2, hj => simp [litA] at hj
theorem litA_bare (w : World) (n : ByteArray) : TLies All 1 w (litA [] n) #[.int .i64 2, .string n, .string ⟨#[]⟩, .slice none 0 0, .slice none 0 0] :=
  ⟨_, _, _, _, rfl, fun _ => rfl, fun _ => rfl, (show (0 : Nat) ≤ 9223372036854775807 by decide), (show (0 : Nat) ≤ 9223372036854775807 by decide), .inl rfl, .inl rfl⟩
theorem lit_same : deepF 1 (litA [(⟨#[120]⟩, ⟨#[49]⟩), (⟨#[121]⟩, ⟨#[50]⟩)] ⟨#[97]⟩) (litA [(⟨#[121]⟩, ⟨#[50]⟩), (⟨#[120]⟩, ⟨#[49]⟩)] ⟨#[97]⟩) = true := by decide +kernel
theorem lit_other : deepF 1 (litA [] ⟨#[97]⟩) (litA [] ⟨#[98]⟩) = false := by decide +kernel
theorem litA_small (ps : List Pr) (n : ByteArray) (h : ps.length ≤ 400) : SmallT 1 (litA ps n) := ⟨h, (show (0 : Nat) ≤ 400 by decide), fun k hk => by cases hk⟩
end Go.Proofs.YtgdbbocfiejlfaaDoor
