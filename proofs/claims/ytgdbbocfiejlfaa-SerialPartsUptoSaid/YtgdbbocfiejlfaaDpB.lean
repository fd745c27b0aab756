/- Trees that lie in memory. -/
import Derived.Test.YtgdbbocfiejlfaaDpA
import Derived.Test.YtgdbbocfiejlfaaBox
set_option linter.unusedSimpArgs false
set_option linter.unusedVariables false
namespace Go.Proofs.Ytgdbbocfiejlfaa
open Go.RowKit

/-- The blocks of which S holds lie on. -/
structure Kept (S : Nat → Prop) (w w' : World) : Prop where
  size : w.heap.size ≤ w'.heap.size
  cell : ∀ b o, S b → b < w.heap.size → w'.cell? ⟨b, o, none⟩ = w.cell? ⟨b, o, none⟩
theorem kept_of {S : Nat → Prop} {w w' : World} (h : Below w.heap.size w w') : Kept S w w' := ⟨h.size, fun b o _ hb => h.cell (p := ⟨b, o, none⟩) hb⟩
theorem kept_ofB {S : Nat → Prop} {n : Nat} {w w' : World} (h : Below n w w') (hS : ∀ b, S b → b < n) : Kept S w w' := ⟨h.size, fun b o hs _ => h.cell (p := ⟨b, o, none⟩) (hS b hs)⟩
/-- A row of attributes, in blocks of which S holds. -/
def PRow (S : Nat → Prop) (w : World) (a : Option Addr) (xs : List Pr) : Prop := xs = [] ∨ ∃ b o, a = some ⟨b, o, none⟩ ∧ b < w.heap.size ∧ S b ∧ ∀ j x, xs[j]? = some x →
  w.cell? ⟨b, o + j * 2, none⟩ = some (.string x.1) ∧ w.cell? ⟨b, o + j * 2 + 1, none⟩ = some (.string x.2)
theorem PRow.on {S T : Nat → Prop} {w w' : World} {a : Option Addr} {xs : List Pr} (h : PRow S w a xs) (hb : Kept S w w') (hST : ∀ b, S b → b < w.heap.size → T b) : PRow T w' a xs := by
  rcases h with h | ⟨b, o, rfl, hl, hs, hc⟩
  · exact .inl h
  · refine .inr ⟨b, o, rfl, Nat.lt_of_lt_of_le hl hb.size, hST b hs hl, fun j x hj => ?_⟩
    obtain ⟨y0, y1⟩ := hc j x hj
    exact ⟨(hb.cell b _ hs hl).trans y0, (hb.cell b _ hs hl).trans y1⟩
/-- A row of things of five cells. -/
def KRow {α : Type} (S : Nat → Prop) (R : α → Array Value → Prop) (w : World) (a : Option Addr) (xs : List α) : Prop := xs = [] ∨ ∃ b o, a = some ⟨b, o, none⟩ ∧ b < w.heap.size ∧ S b ∧ ∀ j x, xs[j]? = some x →
  ∃ c0 c1 c2 c3 c4, w.cell? ⟨b, o + j * 5, none⟩ = some c0 ∧ w.cell? ⟨b, o + j * 5 + 1, none⟩ = some c1 ∧ w.cell? ⟨b, o + j * 5 + 2, none⟩ = some c2 ∧ w.cell? ⟨b, o + j * 5 + 3, none⟩ = some c3 ∧ w.cell? ⟨b, o + j * 5 + 4, none⟩ = some c4 ∧ R x #[c0, c1, c2, c3, c4]
theorem KRow.on {α : Type} {S T : Nat → Prop} {R Q : α → Array Value → Prop} {w w' : World} {a : Option Addr} {xs : List α} (h : KRow S R w a xs) (hb : Kept S w w') (hST : ∀ b, S b → b < w.heap.size → T b) (hR : ∀ x cs, R x cs → Q x cs) : KRow T Q w' a xs := by
  rcases h with h | ⟨b, o, rfl, hl, hs, hc⟩
  · exact .inl h
  · refine .inr ⟨b, o, rfl, Nat.lt_of_lt_of_le hl hb.size, hST b hs hl, fun j x hj => ?_⟩
    obtain ⟨c0, c1, c2, c3, c4, y0, y1, y2, y3, y4, y⟩ := hc j x hj
    exact ⟨c0, c1, c2, c3, c4, (hb.cell b _ hs hl).trans y0, (hb.cell b _ hs hl).trans y1, (hb.cell b _ hs hl).trans y2, (hb.cell b _ hs hl).trans y3, (hb.cell b _ hs hl).trans y4, hR _ _ y⟩
/-- One node's cells. -/
structure NIn {K : Type} (S : Nat → Prop) (R : K → Array Value → Prop) (w : World) (t : Nd K) (cs : Array Value) (aa : Option Addr) (ca : Nat) (ka : Option Addr) (ck : Nat) : Prop where
  cells : cs = #[.int .i64 t.k, .string t.n, .string t.v, .slice aa t.as.length ca, .slice ka t.ks.length ck]
  an : aa = none → ca = 0
  kn : ka = none → ck = 0
  al : t.as.length ≤ 9223372036854775807
  kl : t.ks.length ≤ 9223372036854775807
  ps : PRow S w aa t.as
  ks : KRow S R w ka t.ks
/-- A tree that lies so. -/
def TLies (S : Nat → Prop) : (h : Nat) → World → Tr h → Array Value → Prop
  | 0, _, t, _ => nomatch t
  | h + 1, w, t, cs => ∃ aa ca ka ck, NIn S (TLies S h w) w t cs aa ca ka ck
theorem NIn.on {K : Type} {S T : Nat → Prop} {R Q : K → Array Value → Prop} {w w' : World} {t : Nd K} {cs : Array Value} {aa : Option Addr} {ca : Nat} {ka : Option Addr} {ck : Nat} (h : NIn S R w t cs aa ca ka ck) (hb : Kept S w w') (hST : ∀ b, S b → b < w.heap.size → T b) (hR : ∀ x cs, R x cs → Q x cs) : NIn T Q w' t cs aa ca ka ck :=
  ⟨h.cells, h.an, h.kn, h.al, h.kl, h.ps.on hb hST, h.ks.on hb hST hR⟩
theorem TLies.go {S T : Nat → Prop} : ∀ {h : Nat} {w w' : World} {t : Tr h} {cs : Array Value}, TLies S h w t cs → Kept S w w' → (∀ b, S b → b < w.heap.size → T b) → TLies T h w' t cs
  | 0, _, _, t, _, _, _, _ => nomatch t
  | _ + 1, _, _, _, _, ⟨aa, ca, ka, ck, H⟩, hb, hST => ⟨aa, ca, ka, ck, H.on hb hST fun _ _ h => h.go hb hST⟩
theorem TLies.on {S : Nat → Prop} {h : Nat} {w w' : World} {t : Tr h} {cs : Array Value} (H : TLies S h w t cs) (hb : Below w.heap.size w w') : TLies S h w' t cs := H.go (kept_of hb) fun _ h _ => h
/-- All that is there. -/
abbrev All : Nat → Prop := fun _ => True
theorem TLies.all {S : Nat → Prop} {h : Nat} {w : World} {t : Tr h} {cs : Array Value} (H : TLies S h w t cs) : TLies All h w t cs := H.go (kept_of (Below.refl _ _)) fun _ _ _ => trivial
/-- A row of trees. -/
def TRowT (h : Nat) (w : World) (a : Option Addr) (ts : List (Tr h)) : Prop := KRow All (TLies All h w) w a ts
theorem TRowT.on {h : Nat} {w w' : World} {a : Option Addr} {ts : List (Tr h)} (H : TRowT h w a ts) (hb : Below w.heap.size w w') : TRowT h w' a ts := KRow.on H (kept_of hb) (fun _ h _ => h) fun _ _ h => h.on hb
theorem TLies.size {S : Nat → Prop} {h : Nat} {w : World} {t : Tr h} {cs : Array Value} (H : TLies S h w t cs) : cs.size = 5 := by
  cases h with
  | zero => exact nomatch t
  | succ h => obtain ⟨aa, ca, ka, ck, H⟩ := H; rw [H.cells]; rfl
end Go.Proofs.Ytgdbbocfiejlfaa
