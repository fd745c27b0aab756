/- The table is built once. -/
import Derived.Test.YtgdbbocfiejlfaaSeI
import Derived.Test.YtgdbbocfiejlfaaSeG
set_option linter.unusedSimpArgs false
set_option linter.unusedVariables false
set_option linter.constructorNameAsVariable false
namespace Go.Proofs.Ytgdbbocfiejlfaa
open Go.RowKit

theorem BSR.set {qs : Tab} {ks : List UInt8} {b rb i : Nat} {d : Int} {x1 x2 x3 x4 v : Value} {t : TypeId} {w : World} (H : BSR qs ks b w) (hB : Blk w rb #[.int .u32 d, x1, x2, x3, x4] t) (hn : ∀ c r, lookT qs c = some r → 1 ≤ r.length) (hk : 1 ≤ ks.length) :
    BSR qs ks b (w.setCell ⟨rb, i, none⟩ v) := by
  have h0 := hB.cell 0
  have o : ∀ q j u, q ≠ rb → w.cell? ⟨q, j, none⟩ = some u → (w.setCell ⟨rb, i, none⟩ v).cell? ⟨q, j, none⟩ = some u := fun q j u hq hu => by
    rw [World.cell?_setCell_other]
    · exact hu
    · intro e
      exact hq (congrArg Addr.block e).symm
  have hb : b ≠ rb := by
    obtain ⟨g, cap, h1, -⟩ := H.key
    intro e
    subst e
    rw [hB.cell 256] at h1
    simp at h1
  refine ⟨by simpa using H.lt, fun c hc => o _ _ _ hb (H.no c hc), fun c r hr => ?_, ?_⟩
  · obtain ⟨g, cap, h1, h2, h3⟩ := H.yes c r hr
    refine ⟨g, cap, o _ _ _ hb h1, by simpa using h2, fun j u hu => o _ _ _ ?_ (h3 j u hu)⟩
    intro e
    subst e
    have hr1 := hn c r hr
    have h4 := h3 0 (.int .u8 (r[0].toNat : Int)) (by unfold Lib.byteCells; rw [List.getElem?_map, List.getElem?_eq_getElem (by omega)]; rfl)
    rw [h0] at h4
    simp at h4
  · obtain ⟨g, cap, h1, h2, h3⟩ := H.key
    refine ⟨g, cap, o _ _ _ hb h1, by simpa using h2, fun j k hj => o _ _ _ ?_ (h3 j k hj)⟩
    intro e
    subst e
    have h4 := h3 0 ks[0] (List.getElem?_eq_getElem (by omega))
    rw [h0] at h4
    simp at h4
/-- What the table must be. -/
structure QOk (qs : Tab) : Prop where
  nd : (keysT qs).Nodup
  two : 2 ≤ qs.length
  most : qs.length ≤ 100
  len : ∀ p ∈ qs, p.2.length ≤ 100
  ne : ∀ p ∈ qs, 1 ≤ p.2.length
  one : ∃ p ∈ qs, p.2.length ≠ 1
theorem lookT_mem {qs : Tab} {c : UInt8} {r : List UInt8} (h : lookT qs c = some r) : (c, r) ∈ qs := by
  unfold lookT at h
  cases e : qs.find? (fun p => p.1 == c) with
  | none => rw [e] at h; cases h
  | some p =>
    rw [e] at h
    have h1 := List.mem_of_find?_eq_some e
    have h2 := List.find?_some e
    simp at h h2
    subst h h2
    exact h1
theorem QOk.tab {qs : Tab} (h : QOk qs) : TabOk qs (keysT qs) := by
  refine ⟨h.nd, fun c => ⟨fun hm e => ?_, fun hm => ?_⟩, fun c r hr => h.len _ (lookT_mem hr), fun c r hr => h.ne _ (lookT_mem hr), by unfold keysT; rw [List.length_map]; exact h.most⟩
  · obtain ⟨p, hp, hpc⟩ := List.mem_map.1 hm
    unfold lookT at e
    rw [Option.map_eq_none_iff, List.find?_eq_none] at e
    exact absurd (beq_iff_eq.2 hpc) (e p hp)
  · cases e : lookT qs c with
    | none => exact absurd e hm
    | some r => exact List.mem_map.2 ⟨_, lookT_mem e, rfl⟩
/-- A Replacer, built. -/
abbrev RpD (d s : Int) (b : Nat) : Array Value := #[.int .u32 d, .int .i32 s, .int .u32 0, .iface 97 (.pointer (some ⟨b, 0, none⟩)), .slice none 0 0]
set_option maxRecDepth 100000 in
set_option maxHeartbeats 1600000 in
theorem once_any (qs : Tab) (Q : QOk qs) (rb o cap : Nat) (s : Int) (w : World)
    (hB : Blk w rb #[.int .u32 0, .int .i32 s, .int .u32 0, .nilIface, .slice (some ⟨o, 0, none⟩) (2 * qs.length) cap] 74) (hR : RowS w o (flatT qs.reverse)) :
    Calls Try.prog 22 #[.pointer (some ⟨rb, 0, none⟩)] w fun e w' => e = .returned (.tuple #[]) ∧ ∃ b, Blk w' rb (RpD 0 s b) 74 ∧ BSR qs (keysT qs) b w' ∧ Below rb w w' := by
  have CB := Lib.hid (build_any qs rb o cap s w Q.nd Q.two (Nat.le_trans Q.most (by decide)) (fun p hp => Nat.le_trans (Q.len p hp) (by decide)) Q.one hB hR)
  have HB := Lib.hid hB
  have kb := hB.lt
  have hkl : 1 ≤ (keysT qs).length := by unfold keysT; rw [List.length_map]; have := Q.two; omega
  clear hB hR
  go_enter Try.func22, Try.ntmps22
  go_wp2_with fail
  with_reducible refine CB.out.mono ?_
  rintro e w1 ⟨⟨b, rfl, hS⟩, hb1⟩
  have hB1 := HB.out.below hb1 kb
  have c3 := hB1.cell 3
  have c4 := hB1.cell 4
  have f3 := hB1.free 3
  have f4 := hB1.free 4
  have kb1 := hB1.lt
  have hS2 := (hS.set (i := 3) (v := .iface 97 (.pointer (some ⟨b, 0, none⟩))) hB1 Q.tab.ne hkl)
  have hB2 : Blk _ rb _ _ := hB1.set 3 (.iface 97 (.pointer (some ⟨b, 0, none⟩)))
  have hS3 := Lib.hid (hS2.set (i := 4) (v := .slice none 0 0) hB2 Q.tab.ne hkl)
  have hB3 := Lib.hid (hB2.set 4 (.slice none 0 0))
  have hw3 := Lib.hid (((hb1.mono (Nat.le_of_lt kb)).setCell (p := ⟨rb, 3, none⟩) (Nat.le_refl rb) (.iface 97 (.pointer (some ⟨b, 0, none⟩)))).setCell (p := ⟨rb, 4, none⟩) (Nat.le_refl rb) (.slice none 0 0))
  clear hS hS2 hB1 hB2 hb1 HB CB
  go_wp2_with fail
  go_end0
  exact ⟨rfl, b, hB3.out, hS3.out, hw3.out⟩
end Go.Proofs.Ytgdbbocfiejlfaa
