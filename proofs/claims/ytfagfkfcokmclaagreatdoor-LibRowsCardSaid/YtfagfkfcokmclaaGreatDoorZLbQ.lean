/- char.Len, char.Sub. -/
import Derived.Test.YtfagfkfcokmclaaGreatDoorZLbU
import Derived.Test.YtfagfkfcokmclaaGreatDoorZShf
import Derived.Lib.OthersKept
import Derived.BigQuiet
set_option linter.unusedSimpArgs false
set_option linter.unusedVariables false
set_option linter.constructorNameAsVariable false
namespace Go.Proofs.YtfagfkfcokmclaaGreatDoor
open Go.RowKit Go.Sort

theorem clen_any (s : ByteArray) (hs : s.size ≤ 1000000000) (w : World) : Calls Tryz.prog 109 #[.string s] w fun e w' => e = .returned (.int .i64 ((Lib.runeCount s : Nat) : Int)) ∧ Below w.heap.size w w' := by
  have CR := Lib.hid (Tryz.utf8_RuneCountInString s w (by omega))
  go_enter Tryz.func109, Tryz.ntmps109
  go_wp2_with fail
  with_reducible refine CR.out.mono ?_
  rintro e w1 ⟨rfl, pos, rfl⟩
  have hb : Below w.heap.size w (w.iter s pos) := (Below.refl _ _).alloc (Nat.le_refl _) _
  go_wp2_with fail
  go_returns
  exact ⟨rfl, hb⟩
/-- Some of a text's characters. -/
def partT (s : ByteArray) (f c : Int) : ByteArray := ⟨((((ptsD s.data.toList).drop f.toNat).take c.toNat).flatMap Lib.encodeRune).toArray⟩
theorem sub_runes (l : List Int) (b f m : Nat) (cap : Nat) (w : World) (hl : f + m ≤ l.length) (hr : ∀ r ∈ l, 0 ≤ r) (hc : ∀ j, j < l.length → w.cell? ⟨b, j, none⟩ = some (.int .i32 (l.getD j 0))) :
    (convert 196 9 (.slice (some ⟨b, f, none⟩) m cap)).run Tryz.prog w = .ok (.string ⟨(((l.drop f).take m).flatMap Lib.encodeRune).toArray⟩) w := by
  have h := run_convert_runes (P := Tryz.prog) w 196 9 21 ⟨b, f, none⟩ m cap (l.drop f) (by rw [List.length_drop]; omega) Tryz.underlying196 Tryz.underlying21 Tryz.underlying9 (fun j hj => by
    rw [List.length_drop] at hj
    have := hc (f + j) (by omega)
    rw [Addr.add_lit]
    rw [this]
    simp [List.getD, List.getElem?_drop])
  rw [h]
  have : runesBytes ((l.drop f).take m) = ⟨(((l.drop f).take m).flatMap Lib.encodeRune).toArray⟩ := by
    rw [← runesBytes_enc _ (fun r hr' => hr r (List.mem_of_mem_drop (List.mem_of_mem_take hr')))]
  rw [this]
set_option maxRecDepth 100000 in
set_option maxHeartbeats 800000 in
theorem csub_any (s : ByteArray) (f c : Int) (hf : 0 ≤ f) (hf2 : f ≤ 1000000000) (hc1 : -1000000000 ≤ c) (hc2 : c ≤ 1000000000) (hs : s.size ≤ 1000000) (w : World) :
    Calls Tryz.prog 111 #[.string s, .int .i64 f, .int .i64 c] w fun e w' => e = .returned (.string (partT s f c)) ∧ Below w.heap.size w w' := by
  by_cases h1 : c < 1
  · have hr : partT s f c = ⟨#[]⟩ := by
      unfold partT
      rw [show c.toNat = 0 by omega]
      rfl
    rw [hr]
    go_enter Tryz.func111, Tryz.ntmps111
    go_wp2_with fail
    go_returns
    exact ⟨rfl, Below.refl _ _⟩
  · have hl0 := pts_len s.data.toList
    have hsz : s.data.toList.length = s.size := by simp
    obtain ⟨L, hL⟩ : ∃ L, ptsD s.data.toList = L := ⟨_, rfl⟩
    have hcv : ∀ w : World, (convert 9 196 (.string s)).run Tryz.prog w = .ok (.slice (some ⟨w.heap.size, 0, none⟩) L.length (grownCap w L.length 0 21)) (w.drew.alloc (.cells ((L.map (Value.int .i32)).toArray ++ Array.replicate (grownCap w L.length 0 21 - L.length) (.int .i32 0)) 21)) := fun w => by
      have h := run_runes_of_string (P := Tryz.prog) w 9 196 21 s Tryz.underlying9 Tryz.underlying196 Tryz.underlying21 (by rw [runes_pts]; simp; omega)
      rw [runes_pts, hL] at h
      simpa using h
    have hR := pts_range s.data.toList
    rw [hL] at hR hl0
    have hn : L.length ≤ 1000000 := by omega
    have hsub : partT s f c = ⟨(((L.drop f.toNat).take c.toNat).flatMap Lib.encodeRune).toArray⟩ := by unfold partT; rw [hL]
    rw [hsub]
    clear hsub hL hl0 hsz
    by_cases h2 : (L.length : Int) ≤ f
    · have hr : ((L.drop f.toNat).take c.toNat).flatMap Lib.encodeRune = [] := by
        rw [List.drop_eq_nil_of_le (by omega)]
        simp
      rw [hr]
      go_enter Tryz.func111, Tryz.ntmps111
      go_wp2_with fail
      go_returns
      exact ⟨rfl, ((Below.refl _ _).drew).alloc (Nat.le_refl _) _⟩
    · obtain ⟨fn, rfl⟩ : ∃ fn : Nat, f = (fn : Int) := ⟨f.toNat, by omega⟩
      obtain ⟨cn, rfl⟩ : ∃ cn : Nat, c = (cn : Int) := ⟨c.toNat, by omega⟩
      have hcap := grownCap_ge w L.length 0 21
      have hcvw := hcv w
      obtain ⟨C, hC⟩ : ∃ C, grownCap w L.length 0 21 = C := ⟨_, rfl⟩
      rw [hC] at hcvw
      replace hcap : L.length ≤ C := by omega
      clear hcv hC
      obtain ⟨cells, hcells⟩ : ∃ cs, (L.map (Value.int .i32)).toArray ++ Array.replicate (C - L.length) (.int .i32 0) = cs := ⟨_, rfl⟩
      rw [hcells] at hcvw
      have hne : ¬ C = fn := by omega
      have hB : Blk ((w.alloc (.cells cells 21)).drew) w.heap.size cells 21 := Blk.drew (Blk.new _ _ _)
      have hcc : ∀ j, j < L.length → ((w.alloc (.cells cells 21)).drew).cell? ⟨w.heap.size, j, none⟩ = some (.int .i32 (L.getD j 0)) := fun j hj => by
        rw [hB.cell, ← hcells, Array.getElem?_append_left (by simpa using hj)]
        simp [List.getD, List.getElem?_eq_getElem hj]
      have hw1 : Below w.heap.size w ((w.alloc (.cells cells 21)).drew) := ((Below.refl _ _).alloc (Nat.le_refl _) _).drew
      have hfl : fn < L.length := by omega
      have HW := Lib.hid hw1
      clear hcells hB hw1
      by_cases h3 : (cn : Int) < (L.length : Int) - (fn : Int)
      · have hcb := fun cap => sub_runes L w.heap.size fn cn cap _ (by omega) (fun r hr => (hR r hr).1) hcc
        have hM : max (fn : Int) ((fn : Int) + (cn : Int)) = ((fn + cn : Nat) : Int) := by omega
        have hMC : fn + cn ≤ C := by omega
        have hM0 : fn ≤ fn + cn := by omega
        have hM1 : fn + cn - fn = cn := by omega
        clear hcc hR
        go_enter Tryz.func111, Tryz.ntmps111
        go_wp2_with fail
        go_returns
        exact ⟨by simp, HW.out⟩
      · have hcb := fun cap => sub_runes L w.heap.size fn (L.length - fn) cap _ (by omega) (fun r hr => (hR r hr).1) hcc
        have hM : max (fn : Int) (L.length : Int) = ((L.length : Nat) : Int) := by omega
        have hM0 : fn ≤ L.length := by omega
        have ht : (L.drop fn).take cn = (L.drop fn).take (L.length - fn) := by
          rw [List.take_of_length_le (by rw [List.length_drop]; omega), List.take_of_length_le (by rw [List.length_drop]; omega)]
        have HT := Lib.hid ht
        clear hcc hR ht
        go_enter Tryz.func111, Tryz.ntmps111
        go_wp2_with fail
        go_returns
        exact ⟨by simp [HT.out], HW.out⟩
end Go.Proofs.YtfagfkfcokmclaaGreatDoor
