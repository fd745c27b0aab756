/- Small facts on blocks of cells that the call itself has made, and on what stays of them below a mark. -/
import Derived.Test.YtgdbbocfiejlfaaRows
import Derived.WalkKit
import Derived.WalkSpells
import Derived.WalkLawsBesides
import Derived.Deep.LoopGhost
import Derived.Deep.Light
import Derived.Handy
import Derived.Lib.Hide
namespace Go.Proofs.Ytgdbbocfiejlfaa
open Go.RowKit

/-- Block b of the world is these cells, and none of them is frozen. -/
def Blk (w : World) (b : Nat) (cs : Array Value) (t : TypeId) : Prop := w.heap[b]? = some (.cells cs t (0, 0))

theorem Blk.new (w : World) (cs : Array Value) (t : TypeId) : Blk (w.alloc (.cells cs t)) w.heap.size cs t := by
  show (w.heap.push _)[w.heap.size]? = _
  simp
theorem Blk.lt {w : World} {b : Nat} {cs : Array Value} {t : TypeId} (h : Blk w b cs t) : b < w.heap.size := by
  rcases Nat.lt_or_ge b w.heap.size with h' | h'
  · exact h'
  · simp [Blk, Array.getElem?_eq_none h'] at h
theorem Blk.cell {w : World} {b : Nat} {cs : Array Value} {t : TypeId} (h : Blk w b cs t) (i : Nat) : w.cell? ⟨b, i, none⟩ = cs[i]? := by
  unfold Blk at h
  simp [World.cell?, h]
theorem Blk.free {w : World} {b : Nat} {cs : Array Value} {t : TypeId} (h : Blk w b cs t) (i : Nat) : w.frozen? ⟨b, i, none⟩ = false := by
  unfold Blk at h
  simp [World.frozen?, h]
theorem Blk.below {w w' : World} {b n : Nat} {cs : Array Value} {t : TypeId} (h : Blk w b cs t) (hb : Below n w w') (hn : b < n) : Blk w' b cs t := by
  unfold Blk at *
  rw [hb.block b hn, h]
theorem Blk.alloc {w : World} {b : Nat} {cs : Array Value} {t : TypeId} (h : Blk w b cs t) (o : Obj) : Blk (w.alloc o) b cs t := by
  have hl := h.lt
  unfold Blk at *
  rw [Below.heap_alloc _ _ _ hl, h]
theorem Blk.other {w : World} {b : Nat} {cs : Array Value} {t : TypeId} (h : Blk w b cs t) {a : Addr} (ha : b ≠ a.block) (v : Value) : Blk (w.setCell a v) b cs t := by
  unfold Blk at *
  rw [Below.heap_setCell _ _ _ _ ha, h]
theorem Blk.set {w : World} {b : Nat} {cs : Array Value} {t : TypeId} (h : Blk w b cs t) (i : Nat) (v : Value) : Blk (w.setCell ⟨b, i, none⟩ v) b (cs.setIfInBounds i v) t := by
  have hl := h.lt
  unfold Blk at *
  have h' : w.heap[b] = .cells cs t (0, 0) := by simpa [Array.getElem?_eq_getElem hl] using h
  show (w.heap.modify b _)[b]? = _
  rw [Array.getElem?_eq_getElem (by simpa using hl), Array.getElem_modify_self, h']
  rfl
theorem Blk.drew {w : World} {b : Nat} {cs : Array Value} {t : TypeId} (h : Blk w b cs t) : Blk w.drew b cs t := h

/-- A block of three cells: its cells, and that they may be written. -/
theorem Blk.three {w : World} {b : Nat} {x y z : Value} {t : TypeId} (h : Blk w b #[x, y, z] t) :
    w.cell? ⟨b, 0, none⟩ = some x ∧ w.cell? ⟨b, 1, none⟩ = some y ∧ w.cell? ⟨b, 2, none⟩ = some z ∧ w.frozen? ⟨b, 0, none⟩ = false ∧ w.frozen? ⟨b, 1, none⟩ = false ∧ w.frozen? ⟨b, 2, none⟩ = false :=
  ⟨h.cell 0, h.cell 1, h.cell 2, h.free 0, h.free 1, h.free 2⟩

/-- What was there reads as it did: two rules for the walk. -/
theorem bcell {W w1 : World} (hb : Below W.heap.size W w1) : (∀ b o, b < W.heap.size → w1.cell? ⟨b, o, none⟩ = W.cell? ⟨b, o, none⟩) ∧ (∀ b o, b < W.heap.size → w1.frozen? ⟨b, o, none⟩ = W.frozen? ⟨b, o, none⟩) :=
  ⟨fun b o h => hb.cell (p := ⟨b, o, none⟩) h, fun b o h => hb.frozen (p := ⟨b, o, none⟩) h⟩

/-- A row of ints that lies in memory: n of them, from the cell ⟨b, o⟩ on (where there is one). -/
def IRow (w : World) (a : Option Addr) (n : Nat) (xs : List Int) : Prop :=
  xs.length = n ∧ n ≤ 1152921504606846976 ∧ (0 < n → ∃ b o, a = some ⟨b, o, none⟩ ∧ b < w.heap.size ∧ ∀ j x, xs[j]? = some x → w.cell? ⟨b, o + j, none⟩ = some (.int .i64 x))
/-- A call that answers such a row and leaves what was there. -/
def Row (xs : List Int) (w : World) (e : Ending) (w' : World) : Prop := ∃ a n cap, e = .returned (.slice a n cap) ∧ IRow w' a n xs ∧ Below w.heap.size w w' ∧ n ≤ cap ∧ cap ≤ 1152921504606846976

theorem IRow.below {w w' : World} {a : Option Addr} {n m : Nat} {xs : List Int} (h : IRow w a n xs) (hb : Below m w w') (hm : w.heap.size ≤ m) : IRow w' a n xs := by
  refine ⟨h.1, h.2.1, fun hn => ?_⟩
  obtain ⟨b, o, rfl, hl, hc⟩ := h.2.2 hn
  exact ⟨b, o, rfl, Nat.lt_of_lt_of_le hl hb.size, fun j x hx => by rw [hb.cell (p := ⟨b, o + j, none⟩) (Nat.lt_of_lt_of_le hl hm)]; exact hc j x hx⟩
theorem IRow.nil (w : World) (a : Option Addr) : IRow w a 0 [] := ⟨rfl, by omega, fun h => by omega⟩
theorem IRow.new (w : World) (xs : List Int) (t : TypeId) (h : xs.length ≤ 1152921504606846976) : IRow (w.alloc (.cells (xs.map (Value.int .i64)).toArray t)) (some ⟨w.heap.size, 0, none⟩) xs.length xs := by
  refine ⟨rfl, h, fun hn => ⟨_, 0, rfl, by simp, fun j x hx => ?_⟩⟩
  rw [World.cell?_alloc_at _ _ _ _ rfl]
  simp [hx]
theorem Row.new {w : World} {xs : List Int} {t : TypeId} {n : Nat} {v : Value} (hv : v = .slice (some ⟨w.heap.size, 0, none⟩) n n) {cs : Array Value} (hcs : cs = (xs.map (Value.int .i64)).toArray) (h : xs.length ≤ 1152921504606846976) (hn : xs.length = n) :
    Row xs w (.returned v) (w.alloc (.cells cs t)) := by
  subst hv hcs hn
  exact ⟨_, _, _, rfl, IRow.new w xs t h, (Below.refl _ _).alloc (Nat.le_refl _) _, Nat.le_refl _, h⟩

end Go.Proofs.Ytgdbbocfiejlfaa
