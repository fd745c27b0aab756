/- A table of bytes and texts, laid: plain; NewReplacer. -/
import Derived.Test.YtgdbbocfiejlfaaSeF
import Derived.Test.YtgdbbocfiejlfaaDpC
set_option linter.unusedSimpArgs false
set_option linter.unusedVariables false
set_option linter.constructorNameAsVariable false
namespace Go.Proofs.Ytgdbbocfiejlfaa
open Go.RowKit

def flatT : Tab → List ByteArray
  | [] => []
  | p :: r => ⟨#[p.1]⟩ :: ⟨p.2.toArray⟩ :: flatT r
theorem flatT_len : ∀ ps : Tab, (flatT ps).length = 2 * ps.length
  | [] => rfl
  | p :: r => by
    have := flatT_len r
    simp only [flatT, List.length_cons]
    omega
theorem flatT_at : ∀ (ps : Tab) (t : Nat) (p : UInt8 × List UInt8), ps[t]? = some p → (flatT ps)[2 * t]? = some ⟨#[p.1]⟩ ∧ (flatT ps)[2 * t + 1]? = some ⟨p.2.toArray⟩
  | [], t, p, h => by simp at h
  | q :: r, 0, p, h => by
    simp at h
    subst h
    exact ⟨rfl, rfl⟩
  | q :: r, t + 1, p, h => by
    have := flatT_at r t p (by simpa using h)
    rw [show 2 * (t + 1) = 2 * t + 1 + 1 by omega]
    simpa [flatT] using this
theorem lookT_snoc (qs : Tab) (k : UInt8) (r : List UInt8) (c : UInt8) (h : k ∉ qs.map Prod.fst) : lookT (qs ++ [(k, r)]) c = if c = k then some r else lookT qs c := by
  unfold lookT
  rw [List.find?_append]
  by_cases e : c = k
  · subst e
    rw [if_pos rfl]
    have : qs.find? (fun p => p.1 == c) = none := by
      rw [List.find?_eq_none]
      intro p hp hpc
      exact h (List.mem_map.2 ⟨p, hp, by simpa using hpc⟩)
    rw [this]
    simp
  · rw [if_neg e]
    have : ([(k, r)] : Tab).find? (fun p => p.1 == c) = none := by
      simp
      exact fun h => e h.symm
    rw [this]
    simp
theorem lookT_none (qs : Tab) (k : UInt8) (h : k ∉ qs.map Prod.fst) : lookT qs k = none := by
  unfold lookT
  have : qs.find? (fun p => p.1 == k) = none := by
    rw [List.find?_eq_none]
    intro p hp hpc
    exact h (List.mem_map.2 ⟨p, hp, by simpa using hpc⟩)
  rw [this]
  rfl
/-- The table's keys. -/
def keysT (qs : Tab) : List UInt8 := qs.map Prod.fst
theorem key_new (qs : Tab) (hnd : (keysT qs).Nodup) (j : Nat) (k : UInt8) (r : List UInt8) (hj : qs[j]? = some (k, r)) : k ∉ (qs.take j).map Prod.fst := by
  intro hm
  obtain ⟨i, hi⟩ := List.getElem?_of_mem hm
  have hij : i < j := by
    rcases Nat.lt_or_ge i j with h | h
    · exact h
    · rw [List.getElem?_eq_none (by simp; omega)] at hi; cases hi
  have h1 : (keysT qs)[i]? = some k := by
    unfold keysT
    rw [List.getElem?_map]
    rw [List.getElem?_map, List.getElem?_take_of_lt hij] at hi
    exact hi
  have h2 : (keysT qs)[j]? = some k := by
    unfold keysT
    rw [List.getElem?_map, hj]
    rfl
  have hl : j < (keysT qs).length := by
    rcases Nat.lt_or_ge j (keysT qs).length with h | h
    · exact h
    · rw [List.getElem?_eq_none h] at h2; cases h2
  have := (List.getElem?_inj (by omega) hnd).1 (h1.trans h2.symm)
  omega
/-- A row of texts. -/
def RowS (w : World) (o : Nat) (xs : List ByteArray) : Prop := o < w.heap.size ∧ ∀ j x, xs[j]? = some x → w.cell? ⟨o, j, none⟩ = some (.string x)
theorem RowS.on {w w' : World} {o : Nat} {xs : List ByteArray} (h : RowS w o xs) (hb : Below w.heap.size w w') : RowS w' o xs := ⟨Nat.lt_of_lt_of_le h.1 hb.size, fun j x hx => (hb.cell (p := ⟨o, j, none⟩) h.1).trans (h.2 j x hx)⟩
theorem infoS : (Try.prog.info? 9).map (fun i => (i.zero, i.size, i.bytes)) = some (some (.string .empty), 1, 16) := by kernel_rfl
/-- A Replacer that has not been built. -/
abbrev RpC (o n cap : Nat) : Array Value := #[.int .u32 0, .int .i32 0, .int .u32 0, .nilIface, .slice (some ⟨o, 0, none⟩) n cap]
set_option maxRecDepth 100000 in
set_option maxHeartbeats 2000000 in
theorem new_any (q n c : Nat) (xs : List ByteArray) (w : World) (hB : Blk w q (xs.map Value.string).toArray 9) (hn : xs.length = n) (h2 : n % 2 = 0) (h0 : 1 ≤ n) (hl : n ≤ 1000000) :
    Calls Try.prog 17 #[.slice (some ⟨q, 0, none⟩) n c] w fun e w' => (∃ b o cap, e = .returned (.pointer (some ⟨b, 0, none⟩)) ∧ w.heap.size ≤ b ∧ Blk w' b (RpC o n cap) 74 ∧ RowS w' o xs ∧ o ≠ b) ∧ Below w.heap.size w w' := by
  obtain ⟨i0, hi, hz0, hz1, hz2⟩ := info_parts infoS
  have p1 : Int.tmod (n : Int) 2 = 0 := by rw [Int.tmod_eq_emod_of_nonneg (by omega)]; omega
  have p2 : ((0 : Int) == 1) = false := rfl
  have kq := hB.lt
  go_enter Try.func17, Try.ntmps17
  have hnews : ∀ j u, (xs.map Value.string)[j]? = some u → w.cell? ((⟨q, 0, none⟩ : Addr).add j) = some u := fun j u hj => by
    rw [Addr.add_lit, Nat.zero_add, hB.cell j]
    simpa using hj
  have hone : ∀ u ∈ xs.map Value.string, u.oneCell' = true := fun u hu => by
    obtain ⟨x, -, rfl⟩ := List.mem_map.1 hu
    rfl
  clear hB
  go_wp2_with (at_builtin; refine wpList_append_own w rfl _ _ 51 rfl w.heap.size 9 i0 (.string .empty) 1 16 Try.underlying51 hi hz0 hz1 hz2 rfl (by decide) (.slice none 0 0) 0 [] rfl (World.ownsRow_nil _ _ _ _) ⟨q, 0, none⟩ n c (xs.map Value.string) rfl (by simp [hn]) hnews hone (by unfold maxLen; omega) (by omega) (Nat.le_refl _) ?_)
  intro v' w2 hown hg _
  have hb2 : Below w.heap.size w w2 := (Below.refl _ _).grown hg (Nat.le_refl _) (fun k hk => by cases hk)
  obtain ⟨g, cap, cur, rfl, h3, h4, h5, h6, h7, h8⟩ := hown.2.resolve_left (by rintro ⟨-, h⟩; omega)
  have hR : RowS w2 g xs := by
    have hBG : Blk w2 g cur 9 := h4
    refine ⟨hBG.lt, fun j x hx => ?_⟩
    rw [hBG.cell j]
    have hj : (xs.map Value.string)[j]? = some (.string x) := by rw [List.getElem?_map, hx]; rfl
    rw [← h8, List.getElem?_take] at hj
    split at hj
    · simpa using hj
    · cases hj
  have hRa := hR.on (w' := w2.alloc (.cells (RpC g n cap) 74)) ((Below.refl _ _).alloc (Nat.le_refl _) _)
  have hBa : Blk (w2.alloc (.cells (RpC g n cap) 74)) w2.heap.size (RpC g n cap) 74 := Blk.new _ _ _
  have hgl := hR.1
  clear hown h4 h8 hnews hone hi hz0 hz1 hz2
  go_wp2_with fail
  go_returns
  exact ⟨⟨_, g, cap, rfl, hb2.size, hBa, hRa, by omega⟩, hb2.alloc hb2.size _⟩
end Go.Proofs.Ytgdbbocfiejlfaa
