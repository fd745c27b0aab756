/- Texts put together: LbV, LbX. -/
import Derived.Test.YtfagfkfcokmclaaGreatDoorZShf
import Derived.Test.YtfagfkfcokmclaaGreatDoorZMgB
import Derived.Test.YtfagfkfcokmclaaGreatDoorZWaC
import Derived.Lib.AppendIntMem
import Derived.BigQuiet
section
set_option linter.unusedSimpArgs false
set_option linter.unusedVariables false
set_option linter.constructorNameAsVariable false
namespace Go.Proofs.YtfagfkfcokmclaaGreatDoor
open Go.RowKit Go.Sort

/-- The table. -/
def aT : List (Int × Int × ByteArray) := [
  (1, 1, ⟨#[99, 111, 117, 110, 116, 32, 101, 109, 112, 116, 121, 32, 101, 120, 105, 115, 116, 115, 32, 110, 111, 116, 32, 98, 111, 111, 108, 101, 97, 110, 32, 100, 97, 116, 97, 32, 99, 111, 100, 101, 112, 111, 105, 110, 116, 115, 45, 116, 111, 45, 115, 116, 114, 105, 110, 103, 32, 115, 116, 114, 105, 110, 103, 45, 116, 111, 45, 99, 111, 100, 101, 112, 111, 105, 110, 116, 115, 32, 97, 118, 103, 32, 109, 97, 120, 32, 109, 105, 110, 32, 97, 98, 115, 32, 102, 108, 111, 111, 114, 32, 99, 101, 105, 108, 105, 110, 103, 32, 114, 111, 117, 110, 100, 32, 114, 101, 118, 101, 114, 115, 101, 32, 100, 105, 115, 116, 105, 110, 99, 116, 45, 118, 97, 108, 117, 101, 115, 32, 101, 120, 97, 99, 116, 108, 121, 45, 111, 110, 101, 32, 122, 101, 114, 111, 45, 111, 114, 45, 111, 110, 101, 32, 111, 110, 101, 45, 111, 114, 45, 109, 111, 114, 101, 32, 100, 111, 99, 32, 120, 115, 58, 105, 110, 116, 101, 103, 101, 114, 32, 120, 115, 58, 100, 101, 99, 105, 109, 97, 108, 32, 120, 115, 58, 115, 116, 114, 105, 110, 103, 32, 120, 115, 58, 98, 111, 111, 108, 101, 97, 110, 32, 120, 115, 58, 117, 110, 116, 121, 112, 101, 100, 65, 116, 111, 109, 105, 99]⟩),
  (0, 0, ⟨#[116, 114, 117, 101, 32, 102, 97, 108, 115, 101, 32, 112, 111, 115, 105, 116, 105, 111, 110, 32, 108, 97, 115, 116]⟩),
  (0, 1, ⟨#[115, 116, 114, 105, 110, 103, 32, 115, 116, 114, 105, 110, 103, 45, 108, 101, 110, 103, 116, 104, 32, 110, 111, 114, 109, 97, 108, 105, 122, 101, 45, 115, 112, 97, 99, 101, 32, 110, 97, 109, 101, 32, 114, 111, 111, 116, 32, 101, 114, 114, 111, 114]⟩),
  (2, 2, ⟨#[99, 111, 110, 116, 97, 105, 110, 115, 32, 115, 116, 97, 114, 116, 115, 45, 119, 105, 116, 104, 32, 101, 110, 100, 115, 45, 119, 105, 116, 104, 32, 115, 117, 98, 115, 116, 114, 105, 110, 103, 45, 98, 101, 102, 111, 114, 101, 32, 115, 117, 98, 115, 116, 114, 105, 110, 103, 45, 97, 102, 116, 101, 114, 32, 115, 116, 114, 105, 110, 103, 45, 106, 111, 105, 110, 32, 99, 111, 109, 112, 97, 114, 101, 32, 105, 110, 100, 101, 120, 45, 111, 102, 32, 114, 101, 109, 111, 118, 101, 32, 100, 101, 101, 112, 45, 101, 113, 117, 97, 108]⟩),
  (2, 3, ⟨#[115, 117, 98, 115, 116, 114, 105, 110, 103, 32, 115, 117, 98, 115, 101, 113, 117, 101, 110, 99, 101]⟩),
  (1, 2, ⟨#[115, 117, 109]⟩),
  (3, 3, ⟨#[116, 114, 97, 110, 115, 108, 97, 116, 101, 32, 105, 110, 115, 101, 114, 116, 45, 98, 101, 102, 111, 114, 101]⟩),
  (2, 8, ⟨#[99, 111, 110, 99, 97, 116]⟩)]
def aCells : Array Value := #[.int .i64 1, .int .i64 1, .string ⟨#[99, 111, 117, 110, 116, 32, 101, 109, 112, 116, 121, 32, 101, 120, 105, 115, 116, 115, 32, 110, 111, 116, 32, 98, 111, 111, 108, 101, 97, 110, 32, 100, 97, 116, 97, 32, 99, 111, 100, 101, 112, 111, 105, 110, 116, 115, 45, 116, 111, 45, 115, 116, 114, 105, 110, 103, 32, 115, 116, 114, 105, 110, 103, 45, 116, 111, 45, 99, 111, 100, 101, 112, 111, 105, 110, 116, 115, 32, 97, 118, 103, 32, 109, 97, 120, 32, 109, 105, 110, 32, 97, 98, 115, 32, 102, 108, 111, 111, 114, 32, 99, 101, 105, 108, 105, 110, 103, 32, 114, 111, 117, 110, 100, 32, 114, 101, 118, 101, 114, 115, 101, 32, 100, 105, 115, 116, 105, 110, 99, 116, 45, 118, 97, 108, 117, 101, 115, 32, 101, 120, 97, 99, 116, 108, 121, 45, 111, 110, 101, 32, 122, 101, 114, 111, 45, 111, 114, 45, 111, 110, 101, 32, 111, 110, 101, 45, 111, 114, 45, 109, 111, 114, 101, 32, 100, 111, 99, 32, 120, 115, 58, 105, 110, 116, 101, 103, 101, 114, 32, 120, 115, 58, 100, 101, 99, 105, 109, 97, 108, 32, 120, 115, 58, 115, 116, 114, 105, 110, 103, 32, 120, 115, 58, 98, 111, 111, 108, 101, 97, 110, 32, 120, 115, 58, 117, 110, 116, 121, 112, 101, 100, 65, 116, 111, 109, 105, 99]⟩, .int .i64 0, .int .i64 0, .string ⟨#[116, 114, 117, 101, 32, 102, 97, 108, 115, 101, 32, 112, 111, 115, 105, 116, 105, 111, 110, 32, 108, 97, 115, 116]⟩, .int .i64 0, .int .i64 1, .string ⟨#[115, 116, 114, 105, 110, 103, 32, 115, 116, 114, 105, 110, 103, 45, 108, 101, 110, 103, 116, 104, 32, 110, 111, 114, 109, 97, 108, 105, 122, 101, 45, 115, 112, 97, 99, 101, 32, 110, 97, 109, 101, 32, 114, 111, 111, 116, 32, 101, 114, 114, 111, 114]⟩, .int .i64 2, .int .i64 2, .string ⟨#[99, 111, 110, 116, 97, 105, 110, 115, 32, 115, 116, 97, 114, 116, 115, 45, 119, 105, 116, 104, 32, 101, 110, 100, 115, 45, 119, 105, 116, 104, 32, 115, 117, 98, 115, 116, 114, 105, 110, 103, 45, 98, 101, 102, 111, 114, 101, 32, 115, 117, 98, 115, 116, 114, 105, 110, 103, 45, 97, 102, 116, 101, 114, 32, 115, 116, 114, 105, 110, 103, 45, 106, 111, 105, 110, 32, 99, 111, 109, 112, 97, 114, 101, 32, 105, 110, 100, 101, 120, 45, 111, 102, 32, 114, 101, 109, 111, 118, 101, 32, 100, 101, 101, 112, 45, 101, 113, 117, 97, 108]⟩, .int .i64 2, .int .i64 3, .string ⟨#[115, 117, 98, 115, 116, 114, 105, 110, 103, 32, 115, 117, 98, 115, 101, 113, 117, 101, 110, 99, 101]⟩, .int .i64 1, .int .i64 2, .string ⟨#[115, 117, 109]⟩, .int .i64 3, .int .i64 3, .string ⟨#[116, 114, 97, 110, 115, 108, 97, 116, 101, 32, 105, 110, 115, 101, 114, 116, 45, 98, 101, 102, 111, 114, 101]⟩, .int .i64 2, .int .i64 8, .string ⟨#[99, 111, 110, 99, 97, 116]⟩]
/-- The words of a row. -/
def wordsA (nm : ByteArray) : List ByteArray := (Lib.fields nm.data.toList).map fun l => ⟨l.toArray⟩
def hasW (nm name : ByteArray) : Bool := Lib.containsS (wordsA nm) name
def arityGo : List (Int × Int × ByteArray) → ByteArray → Int × Int × Bool
  | [], _ => (0, 0, false)
  | r :: rs, name => if hasW r.2.2 name then (r.1, r.2.1, true) else arityGo rs name
def arityF (name : ByteArray) : Int × Int × Bool := arityGo aT name
def knownF (name : ByteArray) (n : Int) : Bool := (arityF name).2.2 && decide ((arityF name).1 ≤ n) && decide (n ≤ (arityF name).2.1)
/-- The table lies. -/
def TabA (w : World) (b : Nat) : Prop := b < w.heap.size ∧ ∀ j x, aT[j]? = some x → w.cell? ⟨b, j * 3, none⟩ = some (.int .i64 x.1) ∧ w.cell? ⟨b, j * 3 + 1, none⟩ = some (.int .i64 x.2.1) ∧ w.cell? ⟨b, j * 3 + 2, none⟩ = some (.string x.2.2)
theorem aCells_at : ∀ (j : Nat) x, aT[j]? = some x → aCells[j * 3]? = some (.int .i64 x.1) ∧ aCells[j * 3 + 1]? = some (.int .i64 x.2.1) ∧ aCells[j * 3 + 2]? = some (.string x.2.2)
  | 0, x, h => by cases h; exact ⟨rfl, rfl, rfl⟩
  | 1, x, h => by cases h; exact ⟨rfl, rfl, rfl⟩
  | 2, x, h => by cases h; exact ⟨rfl, rfl, rfl⟩
  | 3, x, h => by cases h; exact ⟨rfl, rfl, rfl⟩
  | 4, x, h => by cases h; exact ⟨rfl, rfl, rfl⟩
  | 5, x, h => by cases h; exact ⟨rfl, rfl, rfl⟩
  | 6, x, h => by cases h; exact ⟨rfl, rfl, rfl⟩
  | 7, x, h => by cases h; exact ⟨rfl, rfl, rfl⟩
  | j + 8, x, h => by
    have : (aT[j + 8]?) = none := List.getElem?_eq_none (by show 8 ≤ j + 8; omega)
    rw [this] at h
    cases h
theorem TabA.of {w : World} {b : Nat} {t : TypeId} (h : Blk w b aCells t) : TabA w b :=
  ⟨h.lt, fun j x hj => by
    obtain ⟨h1, h2, h3⟩ := aCells_at j x hj
    exact ⟨(h.cell _).trans h1, (h.cell _).trans h2, (h.cell _).trans h3⟩⟩
theorem TabA.on {w w' : World} {b : Nat} (h : TabA w b) (hb : Below w.heap.size w w') : TabA w' b :=
  ⟨Nat.lt_of_lt_of_le h.1 hb.size, fun j x hj => by
    obtain ⟨h1, h2, h3⟩ := h.2 j x hj
    exact ⟨(hb.cell (p := ⟨b, _, none⟩) h.1).trans h1, (hb.cell (p := ⟨b, _, none⟩) h.1).trans h2, (hb.cell (p := ⟨b, _, none⟩) h.1).trans h3⟩⟩
theorem aT_plain : aT.all (fun x => decide (x.2.2.size ≤ 300) && x.2.2.data.toList.all (fun b => decide (b.toNat < 128)) && decide ((Lib.fields x.2.2.data.toList).length ≤ 300)) = true := by decide +kernel
theorem aT_row {j : Nat} {x : Int × Int × ByteArray} (h : aT[j]? = some x) : x.2.2.size ≤ 300 ∧ (∀ (i : Nat) b, x.2.2.data.toList[i]? = some b → b.toNat < 128) ∧ (Lib.fields x.2.2.data.toList).length ≤ 300 := by
  have hm := List.mem_of_getElem? h
  have := List.all_eq_true.1 aT_plain x hm
  simp only [Bool.and_eq_true, decide_eq_true_eq, List.all_eq_true] at this
  exact ⟨this.1.1, fun i b hb => this.1.2 b (List.mem_of_getElem? hb), this.2⟩
/-- A row of words. -/
def FR (w : World) (b : Nat) (zs : List ByteArray) : Prop := b < w.heap.size ∧ ∀ j, j < zs.length → w.cell? ⟨b, 0 + j, none⟩ = some (.string (zs.getD j ByteArray.empty))
theorem fields_row {j : Nat} {x : Int × Int × ByteArray} (h : aT[j]? = some x) (w : World) (htab : Lib.TabIs Tryz.prog w "strings.asciiSpace" .u8 Lib.asciiSpaceTab) :
    Calls Tryz.prog 120 #[.string x.2.2] w fun e w' => ∃ b, e = .returned (.slice (some ⟨b, 0, none⟩) (wordsA x.2.2).length (wordsA x.2.2).length) ∧ FR w' b (wordsA x.2.2) ∧ Below w.heap.size w w' := by
  obtain ⟨h1, h2, h3⟩ := aT_row h
  refine (Tryz.strings_Fields_laid x.2.2 w (by omega) h2 htab).mono ?_
  rintro e w' ⟨rfl, rfl⟩
  have hB := Blk.new w ((Lib.fields x.2.2.data.toList).map fun l => Value.string ⟨l.toArray⟩).toArray 9
  refine ⟨w.heap.size, by unfold wordsA; rw [List.length_map], ⟨hB.lt, fun j hj => ?_⟩, (Below.refl _ _).alloc (Nat.le_refl _) _⟩
  rw [hB.cell]
  unfold wordsA at hj ⊢
  rw [List.length_map] at hj
  simp [List.getElem?_eq_getElem hj, List.getD]
theorem has_row (w : World) (b : Nat) (zs : List ByteArray) (name : ByteArray) (hl : zs.length ≤ 300) (h : FR w b zs) :
    Calls Tryz.prog 119 #[.slice (some ⟨b, 0, none⟩) zs.length zs.length, .string name] w fun e w' => e = .returned (.bool (Lib.containsS zs name)) ∧ w = w' := by
  refine (Tryz.slices_Contains_string b 0 zs.length zs.length zs name w (Nat.le_refl _) (by omega) h.2).mono ?_
  rintro e w' ⟨rfl, rfl⟩
  exact ⟨by rw [List.take_length], rfl⟩
set_option maxRecDepth 100000 in
set_option maxHeartbeats 800000 in
theorem arity_any (name : ByteArray) (w : World) (htab : Lib.TabIs Tryz.prog w "strings.asciiSpace" .u8 Lib.asciiSpaceTab) : Calls Tryz.prog 60 #[.string name] w fun e w' =>
    e = .returned (.tuple #[.int .i64 (arityF name).1, .int .i64 (arityF name).2.1, .bool (arityF name).2.2]) ∧ Below w.heap.size w w' := by
  obtain ⟨RES, hRES⟩ : ∃ r, arityF name = r := ⟨_, rfl⟩
  rw [hRES]
  obtain ⟨r0, r1, r2⟩ := RES
  have HT := Lib.hid htab
  have HR := Lib.hid (show arityGo (aT.drop 0) name = (r0, r1, r2) from hRES)
  clear htab hRES
  go_enter Tryz.func60, Tryz.ntmps60
  go_wp2_with fail
  go_loopg [19] 9 (fun m ii wr => ∃ j : Nat, j ≤ 8 ∧ m + j = 9 ∧ ii = .int .i64 (j : Int) ∧ Hid (arityGo (aT.drop j) name = (r0, r1, r2)) ∧ Hid (TabA wr w.heap.size) ∧ Below w.heap.size w wr)
  case atStart => exact ⟨0, by omega, by omega, rfl, HR, Lib.hid (TabA.of (Blk.new w _ _)), (Below.refl _ _).alloc (Nat.le_refl _) _⟩
  case round =>
    obtain ⟨j, hj, hmj, rfl, HG, HA, hwr⟩ := hrel
    have hj0 : (0 : Int) ≤ (j : Int) := Int.natCast_nonneg _
    by_cases hlt : j < 8
    · have i0 : decide ((j : Int) < 8) = true := by simp; omega
      have i6 : (j : Int) < 8 := by omega
      obtain ⟨x, hjx⟩ : ∃ x, aT[j]? = some x := ⟨_, List.getElem?_eq_getElem (show j < aT.length from hlt)⟩
      obtain ⟨kA, hA⟩ := HA.out
      obtain ⟨u0, u1, u2⟩ := hA j x hjx
      clear hA
      have hd : aT.drop j = x :: aT.drop (j + 1) := by
        rw [List.drop_eq_getElem_cons (show j < aT.length from hlt)]
        rw [List.getElem?_eq_getElem (show j < aT.length from hlt)] at hjx
        cases hjx
        rfl
      have hG := HG.out
      rw [hd] at hG
      have HF := Lib.hid (fun (W : World) (hW : Below w.heap.size w W) => fields_row hjx W (Lib.tabBelow_of_tabIs HT.out W hW))
      have h300 := (aT_row hjx).2.2
      have hwl : (wordsA x.2.2).length ≤ 300 := by unfold wordsA; rw [List.length_map]; exact h300
      have HC := Lib.hid (fun (W : World) (b : Nat) (h : FR W b (wordsA x.2.2)) => has_row W b (wordsA x.2.2) name hwl h)
      obtain ⟨lo, hi, nm⟩ := x
      replace hG : (if hasW nm name then (lo, hi, true) else arityGo (aT.drop (j + 1)) name) = (r0, r1, r2) := hG
      have hHW : Lib.containsS (wordsA nm) name = hasW nm name := rfl
      simp only at u0 u1 u2 HF HC
      rw [hHW] at HC
      clear hHW h300 hwl hjx hd
      generalize wordsA nm = zs at HF HC
      generalize hasW nm name = hw at hG HC
      have hwa : Below w.heap.size w (wr.alloc (.cells #[.int .i64 lo, .int .i64 hi, .string nm] 146)) := hwr.alloc hwr.size _
      have BX : Blk (wr.alloc (.cells #[.int .i64 lo, .int .i64 hi, .string nm] 146)) wr.heap.size #[.int .i64 lo, .int .i64 hi, .string nm] 146 := Blk.new _ _ _
      have HA1 := Lib.hid (HA.out.on ((Below.refl _ _).alloc (Nat.le_refl _) (.cells #[.int .i64 lo, .int .i64 hi, .string nm] 146)))
      have hsw := hwr.size
      cases hw
      · have HG2 := Lib.hid (show arityGo (aT.drop (j + 1)) name = (r0, r1, r2) from hG)
        clear hG HG HA
        go_wp2_with fail
        generalize wr.alloc (.cells #[.int .i64 lo, .int .i64 hi, .string nm] 146) = W1 at *
        have kX := BX.lt
        with_reducible refine (HF.out W1 hwa).mono ?_
        rintro e w2 ⟨fb, rfl, hF, hb2⟩
        have HF2 := Lib.hid hF
        have HA2 := Lib.hid (HA1.out.on hb2)
        have hw2 := hwa.trans (hb2.mono hwa.size)
        clear hF HF HA1
        go_wp2_with fail
        with_reducible refine (HC.out w2 fb HF2.out).mono ?_
        rintro e w3 ⟨rfl, rfl⟩
        go_wp2_with fail
        go_roundg (gk - 1)
        case measure => omega
        case rel => exact ⟨j + 1, by omega, by omega, by go_num, HG2, HA2, hw2⟩
      · have hG2 : (lo, hi, true) = (r0, r1, r2) := hG
        cases hG2
        clear hG HG HA
        go_wp2_with fail
        generalize wr.alloc (.cells #[.int .i64 r0, .int .i64 r1, .string nm] 146) = W1 at *
        have kX := BX.lt
        with_reducible refine (HF.out W1 hwa).mono ?_
        rintro e w2 ⟨fb, rfl, hF, hb2⟩
        have HF2 := Lib.hid hF
        have BX2 := BX.below hb2 kX
        have hw2 := hwa.trans (hb2.mono hwa.size)
        have k2 := BX2.lt
        have y0 : w2.cell? ⟨wr.heap.size, 0, none⟩ = some (.int .i64 r0) := BX2.cell 0
        have y1 : w2.cell? ⟨wr.heap.size, 1, none⟩ = some (.int .i64 r1) := BX2.cell 1
        clear hF HF HA1 BX BX2
        go_wp2_with fail
        with_reducible refine (HC.out w2 fb HF2.out).mono ?_
        rintro e w3 ⟨rfl, rfl⟩
        go_wp2_with fail
        go_quiet (fail)
        have hwd := fun q => below_drewN hw2 q
        go_wp2_with fail
        go_returns
        exact ⟨rfl, hwd _⟩
    · have i0 : decide ((j : Int) < 8) = false := by simp; omega
      have h8 : j = 8 := by omega
      subst h8
      have hG : (0, 0, false) = (r0, r1, r2) := HG.out
      cases hG
      clear HG HA
      go_wp2_with fail
      go_returns
      exact ⟨rfl, hwr⟩
theorem known_any (name : ByteArray) (n : Int) (w : World) (htab : Lib.TabIs Tryz.prog w "strings.asciiSpace" .u8 Lib.asciiSpaceTab) : Calls Tryz.prog 24 #[.string name, .int .i64 n] w fun e w' =>
    e = .returned (.bool (knownF name n)) ∧ Below w.heap.size w w' := by
  have CA := Lib.hid (arity_any name w htab)
  unfold knownF
  generalize arityF name = r at *
  obtain ⟨r0, r1, r2⟩ := r
  simp only at CA ⊢
  clear htab
  cases r2
  · go_enter Tryz.func24, Tryz.ntmps24
    go_wp2_with fail
    with_reducible refine CA.out.mono ?_
    rintro e w1 ⟨rfl, hb⟩
    go_wp2_with fail
    go_returns
    exact ⟨rfl, hb⟩
  · by_cases h1 : r0 ≤ n
    · by_cases h2 : n ≤ r1
      · have d1 : decide (r0 ≤ n) = true := decide_eq_true h1
        have d2 : decide (n ≤ r1) = true := decide_eq_true h2
        go_enter Tryz.func24, Tryz.ntmps24
        go_wp2_with fail
        with_reducible refine CA.out.mono ?_
        rintro e w1 ⟨rfl, hb⟩
        go_wp2_with fail
        go_returns
        exact ⟨by simp [h1, h2], hb⟩
      · have d1 : decide (r0 ≤ n) = true := decide_eq_true h1
        have d2 : decide (n ≤ r1) = false := decide_eq_false h2
        go_enter Tryz.func24, Tryz.ntmps24
        go_wp2_with fail
        with_reducible refine CA.out.mono ?_
        rintro e w1 ⟨rfl, hb⟩
        go_wp2_with fail
        go_returns
        exact ⟨by simp [h1, h2], hb⟩
    · have d1 : decide (r0 ≤ n) = false := decide_eq_false h1
      go_enter Tryz.func24, Tryz.ntmps24
      go_wp2_with fail
      with_reducible refine CA.out.mono ?_
      rintro e w1 ⟨rfl, hb⟩
      go_wp2_with fail
      go_returns
      exact ⟨by simp; omega, hb⟩
end Go.Proofs.YtfagfkfcokmclaaGreatDoor
end
section
set_option linter.unusedSimpArgs false
set_option linter.unusedVariables false
set_option linter.constructorNameAsVariable false
namespace Go.Proofs.YtfagfkfcokmclaaGreatDoor
open Go.RowKit Go.Sort

theorem has_substring_2 (w : World) (htab : Lib.TabIs Tryz.prog w "strings.asciiSpace" .u8 Lib.asciiSpaceTab) : Calls Tryz.prog 14 #[.string ⟨#[115, 117, 98, 115, 116, 114, 105, 110, 103]⟩, .int .i64 2] w fun e w' => e = .returned (.bool true) ∧ Below w.heap.size w w' := by
  have CK := Lib.hid (known_any ⟨#[115, 117, 98, 115, 116, 114, 105, 110, 103]⟩ 2 w htab)
  rw [show knownF ⟨#[115, 117, 98, 115, 116, 114, 105, 110, 103]⟩ 2 = true by decide +kernel] at CK
  have CP := Lib.hid (fun W => Tryz.strings_HasPrefix ⟨#[115, 117, 98, 115, 116, 114, 105, 110, 103]⟩ ⟨#[120, 115, 58]⟩ W)
  rw [show Lib.hasPrefix (⟨#[115, 117, 98, 115, 116, 114, 105, 110, 103]⟩ : ByteArray).data.toList (⟨#[120, 115, 58]⟩ : ByteArray).data.toList = false by decide +kernel] at CP
  clear htab
  go_enter Tryz.func14, Tryz.ntmps14
  go_wp2_with fail
  with_reducible refine CK.out.mono ?_
  rintro e w1 ⟨rfl, hb⟩
  go_wp2_with fail
  with_reducible refine (CP.out w1).mono ?_
  rintro e w2 ⟨rfl, rfl⟩
  go_wp2_with fail
  go_returns
  exact ⟨rfl, hb⟩
theorem has_substring_3 (w : World) (htab : Lib.TabIs Tryz.prog w "strings.asciiSpace" .u8 Lib.asciiSpaceTab) : Calls Tryz.prog 14 #[.string ⟨#[115, 117, 98, 115, 116, 114, 105, 110, 103]⟩, .int .i64 3] w fun e w' => e = .returned (.bool true) ∧ Below w.heap.size w w' := by
  have CK := Lib.hid (known_any ⟨#[115, 117, 98, 115, 116, 114, 105, 110, 103]⟩ 3 w htab)
  rw [show knownF ⟨#[115, 117, 98, 115, 116, 114, 105, 110, 103]⟩ 3 = true by decide +kernel] at CK
  have CP := Lib.hid (fun W => Tryz.strings_HasPrefix ⟨#[115, 117, 98, 115, 116, 114, 105, 110, 103]⟩ ⟨#[120, 115, 58]⟩ W)
  rw [show Lib.hasPrefix (⟨#[115, 117, 98, 115, 116, 114, 105, 110, 103]⟩ : ByteArray).data.toList (⟨#[120, 115, 58]⟩ : ByteArray).data.toList = false by decide +kernel] at CP
  clear htab
  go_enter Tryz.func14, Tryz.ntmps14
  go_wp2_with fail
  with_reducible refine CK.out.mono ?_
  rintro e w1 ⟨rfl, hb⟩
  go_wp2_with fail
  with_reducible refine (CP.out w1).mono ?_
  rintro e w2 ⟨rfl, rfl⟩
  go_wp2_with fail
  go_returns
  exact ⟨rfl, hb⟩
theorem has_index_of_2 (w : World) (htab : Lib.TabIs Tryz.prog w "strings.asciiSpace" .u8 Lib.asciiSpaceTab) : Calls Tryz.prog 14 #[.string ⟨#[105, 110, 100, 101, 120, 45, 111, 102]⟩, .int .i64 2] w fun e w' => e = .returned (.bool true) ∧ Below w.heap.size w w' := by
  have CK := Lib.hid (known_any ⟨#[105, 110, 100, 101, 120, 45, 111, 102]⟩ 2 w htab)
  rw [show knownF ⟨#[105, 110, 100, 101, 120, 45, 111, 102]⟩ 2 = true by decide +kernel] at CK
  have CP := Lib.hid (fun W => Tryz.strings_HasPrefix ⟨#[105, 110, 100, 101, 120, 45, 111, 102]⟩ ⟨#[120, 115, 58]⟩ W)
  rw [show Lib.hasPrefix (⟨#[105, 110, 100, 101, 120, 45, 111, 102]⟩ : ByteArray).data.toList (⟨#[120, 115, 58]⟩ : ByteArray).data.toList = false by decide +kernel] at CP
  clear htab
  go_enter Tryz.func14, Tryz.ntmps14
  go_wp2_with fail
  with_reducible refine CK.out.mono ?_
  rintro e w1 ⟨rfl, hb⟩
  go_wp2_with fail
  with_reducible refine (CP.out w1).mono ?_
  rintro e w2 ⟨rfl, rfl⟩
  go_wp2_with fail
  go_returns
  exact ⟨rfl, hb⟩
theorem has_nothing_0 (w : World) (htab : Lib.TabIs Tryz.prog w "strings.asciiSpace" .u8 Lib.asciiSpaceTab) : Calls Tryz.prog 14 #[.string ⟨#[110, 111, 116, 104, 105, 110, 103]⟩, .int .i64 0] w fun e w' => e = .returned (.bool false) ∧ Below w.heap.size w w' := by
  have CK := Lib.hid (known_any ⟨#[110, 111, 116, 104, 105, 110, 103]⟩ 0 w htab)
  rw [show knownF ⟨#[110, 111, 116, 104, 105, 110, 103]⟩ 0 = false by decide +kernel] at CK
  clear htab
  go_enter Tryz.func14, Tryz.ntmps14
  go_wp2_with fail
  with_reducible refine CK.out.mono ?_
  rintro e w1 ⟨rfl, hb⟩
  go_wp2_with fail
  go_returns
  exact ⟨rfl, hb⟩
theorem has_count_1 (w : World) (htab : Lib.TabIs Tryz.prog w "strings.asciiSpace" .u8 Lib.asciiSpaceTab) : Calls Tryz.prog 14 #[.string ⟨#[99, 111, 117, 110, 116]⟩, .int .i64 1] w fun e w' => e = .returned (.bool true) ∧ Below w.heap.size w w' := by
  have CK := Lib.hid (known_any ⟨#[99, 111, 117, 110, 116]⟩ 1 w htab)
  rw [show knownF ⟨#[99, 111, 117, 110, 116]⟩ 1 = true by decide +kernel] at CK
  have CP := Lib.hid (fun W => Tryz.strings_HasPrefix ⟨#[99, 111, 117, 110, 116]⟩ ⟨#[120, 115, 58]⟩ W)
  rw [show Lib.hasPrefix (⟨#[99, 111, 117, 110, 116]⟩ : ByteArray).data.toList (⟨#[120, 115, 58]⟩ : ByteArray).data.toList = false by decide +kernel] at CP
  clear htab
  go_enter Tryz.func14, Tryz.ntmps14
  go_wp2_with fail
  with_reducible refine CK.out.mono ?_
  rintro e w1 ⟨rfl, hb⟩
  go_wp2_with fail
  with_reducible refine (CP.out w1).mono ?_
  rintro e w2 ⟨rfl, rfl⟩
  go_wp2_with fail
  go_returns
  exact ⟨rfl, hb⟩
theorem has_doc_1 (w : World) (htab : Lib.TabIs Tryz.prog w "strings.asciiSpace" .u8 Lib.asciiSpaceTab) : Calls Tryz.prog 14 #[.string ⟨#[100, 111, 99]⟩, .int .i64 1] w fun e w' => e = .returned (.bool false) ∧ Below w.heap.size w w' := by
  have CK := Lib.hid (known_any ⟨#[100, 111, 99]⟩ 1 w htab)
  rw [show knownF ⟨#[100, 111, 99]⟩ 1 = true by decide +kernel] at CK
  have CP := Lib.hid (fun W => Tryz.strings_HasPrefix ⟨#[100, 111, 99]⟩ ⟨#[120, 115, 58]⟩ W)
  rw [show Lib.hasPrefix (⟨#[100, 111, 99]⟩ : ByteArray).data.toList (⟨#[120, 115, 58]⟩ : ByteArray).data.toList = false by decide +kernel] at CP
  clear htab
  go_enter Tryz.func14, Tryz.ntmps14
  go_wp2_with fail
  with_reducible refine CK.out.mono ?_
  rintro e w1 ⟨rfl, hb⟩
  go_wp2_with fail
  with_reducible refine (CP.out w1).mono ?_
  rintro e w2 ⟨rfl, rfl⟩
  go_wp2_with fail
  go_returns
  exact ⟨rfl, hb⟩
theorem has_floor_1 (w : World) (htab : Lib.TabIs Tryz.prog w "strings.asciiSpace" .u8 Lib.asciiSpaceTab) : Calls Tryz.prog 14 #[.string ⟨#[102, 108, 111, 111, 114]⟩, .int .i64 1] w fun e w' => e = .returned (.bool true) ∧ Below w.heap.size w w' := by
  have CK := Lib.hid (known_any ⟨#[102, 108, 111, 111, 114]⟩ 1 w htab)
  rw [show knownF ⟨#[102, 108, 111, 111, 114]⟩ 1 = true by decide +kernel] at CK
  have CP := Lib.hid (fun W => Tryz.strings_HasPrefix ⟨#[102, 108, 111, 111, 114]⟩ ⟨#[120, 115, 58]⟩ W)
  rw [show Lib.hasPrefix (⟨#[102, 108, 111, 111, 114]⟩ : ByteArray).data.toList (⟨#[120, 115, 58]⟩ : ByteArray).data.toList = false by decide +kernel] at CP
  clear htab
  go_enter Tryz.func14, Tryz.ntmps14
  go_wp2_with fail
  with_reducible refine CK.out.mono ?_
  rintro e w1 ⟨rfl, hb⟩
  go_wp2_with fail
  with_reducible refine (CP.out w1).mono ?_
  rintro e w2 ⟨rfl, rfl⟩
  go_wp2_with fail
  go_returns
  exact ⟨rfl, hb⟩
theorem has_ceiling_1 (w : World) (htab : Lib.TabIs Tryz.prog w "strings.asciiSpace" .u8 Lib.asciiSpaceTab) : Calls Tryz.prog 14 #[.string ⟨#[99, 101, 105, 108, 105, 110, 103]⟩, .int .i64 1] w fun e w' => e = .returned (.bool true) ∧ Below w.heap.size w w' := by
  have CK := Lib.hid (known_any ⟨#[99, 101, 105, 108, 105, 110, 103]⟩ 1 w htab)
  rw [show knownF ⟨#[99, 101, 105, 108, 105, 110, 103]⟩ 1 = true by decide +kernel] at CK
  have CP := Lib.hid (fun W => Tryz.strings_HasPrefix ⟨#[99, 101, 105, 108, 105, 110, 103]⟩ ⟨#[120, 115, 58]⟩ W)
  rw [show Lib.hasPrefix (⟨#[99, 101, 105, 108, 105, 110, 103]⟩ : ByteArray).data.toList (⟨#[120, 115, 58]⟩ : ByteArray).data.toList = false by decide +kernel] at CP
  clear htab
  go_enter Tryz.func14, Tryz.ntmps14
  go_wp2_with fail
  with_reducible refine CK.out.mono ?_
  rintro e w1 ⟨rfl, hb⟩
  go_wp2_with fail
  with_reducible refine (CP.out w1).mono ?_
  rintro e w2 ⟨rfl, rfl⟩
  go_wp2_with fail
  go_returns
  exact ⟨rfl, hb⟩
theorem has_round_1 (w : World) (htab : Lib.TabIs Tryz.prog w "strings.asciiSpace" .u8 Lib.asciiSpaceTab) : Calls Tryz.prog 14 #[.string ⟨#[114, 111, 117, 110, 100]⟩, .int .i64 1] w fun e w' => e = .returned (.bool true) ∧ Below w.heap.size w w' := by
  have CK := Lib.hid (known_any ⟨#[114, 111, 117, 110, 100]⟩ 1 w htab)
  rw [show knownF ⟨#[114, 111, 117, 110, 100]⟩ 1 = true by decide +kernel] at CK
  have CP := Lib.hid (fun W => Tryz.strings_HasPrefix ⟨#[114, 111, 117, 110, 100]⟩ ⟨#[120, 115, 58]⟩ W)
  rw [show Lib.hasPrefix (⟨#[114, 111, 117, 110, 100]⟩ : ByteArray).data.toList (⟨#[120, 115, 58]⟩ : ByteArray).data.toList = false by decide +kernel] at CP
  clear htab
  go_enter Tryz.func14, Tryz.ntmps14
  go_wp2_with fail
  with_reducible refine CK.out.mono ?_
  rintro e w1 ⟨rfl, hb⟩
  go_wp2_with fail
  with_reducible refine (CP.out w1).mono ?_
  rintro e w2 ⟨rfl, rfl⟩
  go_wp2_with fail
  go_returns
  exact ⟨rfl, hb⟩
theorem has_abs_1 (w : World) (htab : Lib.TabIs Tryz.prog w "strings.asciiSpace" .u8 Lib.asciiSpaceTab) : Calls Tryz.prog 14 #[.string ⟨#[97, 98, 115]⟩, .int .i64 1] w fun e w' => e = .returned (.bool true) ∧ Below w.heap.size w w' := by
  have CK := Lib.hid (known_any ⟨#[97, 98, 115]⟩ 1 w htab)
  rw [show knownF ⟨#[97, 98, 115]⟩ 1 = true by decide +kernel] at CK
  have CP := Lib.hid (fun W => Tryz.strings_HasPrefix ⟨#[97, 98, 115]⟩ ⟨#[120, 115, 58]⟩ W)
  rw [show Lib.hasPrefix (⟨#[97, 98, 115]⟩ : ByteArray).data.toList (⟨#[120, 115, 58]⟩ : ByteArray).data.toList = false by decide +kernel] at CP
  clear htab
  go_enter Tryz.func14, Tryz.ntmps14
  go_wp2_with fail
  with_reducible refine CK.out.mono ?_
  rintro e w1 ⟨rfl, hb⟩
  go_wp2_with fail
  with_reducible refine (CP.out w1).mono ?_
  rintro e w2 ⟨rfl, rfl⟩
  go_wp2_with fail
  go_returns
  exact ⟨rfl, hb⟩
theorem has_concat_2 (w : World) (htab : Lib.TabIs Tryz.prog w "strings.asciiSpace" .u8 Lib.asciiSpaceTab) : Calls Tryz.prog 14 #[.string ⟨#[99, 111, 110, 99, 97, 116]⟩, .int .i64 2] w fun e w' => e = .returned (.bool true) ∧ Below w.heap.size w w' := by
  have CK := Lib.hid (known_any ⟨#[99, 111, 110, 99, 97, 116]⟩ 2 w htab)
  rw [show knownF ⟨#[99, 111, 110, 99, 97, 116]⟩ 2 = true by decide +kernel] at CK
  have CP := Lib.hid (fun W => Tryz.strings_HasPrefix ⟨#[99, 111, 110, 99, 97, 116]⟩ ⟨#[120, 115, 58]⟩ W)
  rw [show Lib.hasPrefix (⟨#[99, 111, 110, 99, 97, 116]⟩ : ByteArray).data.toList (⟨#[120, 115, 58]⟩ : ByteArray).data.toList = false by decide +kernel] at CP
  clear htab
  go_enter Tryz.func14, Tryz.ntmps14
  go_wp2_with fail
  with_reducible refine CK.out.mono ?_
  rintro e w1 ⟨rfl, hb⟩
  go_wp2_with fail
  with_reducible refine (CP.out w1).mono ?_
  rintro e w2 ⟨rfl, rfl⟩
  go_wp2_with fail
  go_returns
  exact ⟨rfl, hb⟩
theorem has_starts_with_2 (w : World) (htab : Lib.TabIs Tryz.prog w "strings.asciiSpace" .u8 Lib.asciiSpaceTab) : Calls Tryz.prog 14 #[.string ⟨#[115, 116, 97, 114, 116, 115, 45, 119, 105, 116, 104]⟩, .int .i64 2] w fun e w' => e = .returned (.bool true) ∧ Below w.heap.size w w' := by
  have CK := Lib.hid (known_any ⟨#[115, 116, 97, 114, 116, 115, 45, 119, 105, 116, 104]⟩ 2 w htab)
  rw [show knownF ⟨#[115, 116, 97, 114, 116, 115, 45, 119, 105, 116, 104]⟩ 2 = true by decide +kernel] at CK
  have CP := Lib.hid (fun W => Tryz.strings_HasPrefix ⟨#[115, 116, 97, 114, 116, 115, 45, 119, 105, 116, 104]⟩ ⟨#[120, 115, 58]⟩ W)
  rw [show Lib.hasPrefix (⟨#[115, 116, 97, 114, 116, 115, 45, 119, 105, 116, 104]⟩ : ByteArray).data.toList (⟨#[120, 115, 58]⟩ : ByteArray).data.toList = false by decide +kernel] at CP
  clear htab
  go_enter Tryz.func14, Tryz.ntmps14
  go_wp2_with fail
  with_reducible refine CK.out.mono ?_
  rintro e w1 ⟨rfl, hb⟩
  go_wp2_with fail
  with_reducible refine (CP.out w1).mono ?_
  rintro e w2 ⟨rfl, rfl⟩
  go_wp2_with fail
  go_returns
  exact ⟨rfl, hb⟩
theorem has_ends_with_2 (w : World) (htab : Lib.TabIs Tryz.prog w "strings.asciiSpace" .u8 Lib.asciiSpaceTab) : Calls Tryz.prog 14 #[.string ⟨#[101, 110, 100, 115, 45, 119, 105, 116, 104]⟩, .int .i64 2] w fun e w' => e = .returned (.bool true) ∧ Below w.heap.size w w' := by
  have CK := Lib.hid (known_any ⟨#[101, 110, 100, 115, 45, 119, 105, 116, 104]⟩ 2 w htab)
  rw [show knownF ⟨#[101, 110, 100, 115, 45, 119, 105, 116, 104]⟩ 2 = true by decide +kernel] at CK
  have CP := Lib.hid (fun W => Tryz.strings_HasPrefix ⟨#[101, 110, 100, 115, 45, 119, 105, 116, 104]⟩ ⟨#[120, 115, 58]⟩ W)
  rw [show Lib.hasPrefix (⟨#[101, 110, 100, 115, 45, 119, 105, 116, 104]⟩ : ByteArray).data.toList (⟨#[120, 115, 58]⟩ : ByteArray).data.toList = false by decide +kernel] at CP
  clear htab
  go_enter Tryz.func14, Tryz.ntmps14
  go_wp2_with fail
  with_reducible refine CK.out.mono ?_
  rintro e w1 ⟨rfl, hb⟩
  go_wp2_with fail
  with_reducible refine (CP.out w1).mono ?_
  rintro e w2 ⟨rfl, rfl⟩
  go_wp2_with fail
  go_returns
  exact ⟨rfl, hb⟩
theorem has_contains_2 (w : World) (htab : Lib.TabIs Tryz.prog w "strings.asciiSpace" .u8 Lib.asciiSpaceTab) : Calls Tryz.prog 14 #[.string ⟨#[99, 111, 110, 116, 97, 105, 110, 115]⟩, .int .i64 2] w fun e w' => e = .returned (.bool true) ∧ Below w.heap.size w w' := by
  have CK := Lib.hid (known_any ⟨#[99, 111, 110, 116, 97, 105, 110, 115]⟩ 2 w htab)
  rw [show knownF ⟨#[99, 111, 110, 116, 97, 105, 110, 115]⟩ 2 = true by decide +kernel] at CK
  have CP := Lib.hid (fun W => Tryz.strings_HasPrefix ⟨#[99, 111, 110, 116, 97, 105, 110, 115]⟩ ⟨#[120, 115, 58]⟩ W)
  rw [show Lib.hasPrefix (⟨#[99, 111, 110, 116, 97, 105, 110, 115]⟩ : ByteArray).data.toList (⟨#[120, 115, 58]⟩ : ByteArray).data.toList = false by decide +kernel] at CP
  clear htab
  go_enter Tryz.func14, Tryz.ntmps14
  go_wp2_with fail
  with_reducible refine CK.out.mono ?_
  rintro e w1 ⟨rfl, hb⟩
  go_wp2_with fail
  with_reducible refine (CP.out w1).mono ?_
  rintro e w2 ⟨rfl, rfl⟩
  go_wp2_with fail
  go_returns
  exact ⟨rfl, hb⟩
theorem has_string_length_1 (w : World) (htab : Lib.TabIs Tryz.prog w "strings.asciiSpace" .u8 Lib.asciiSpaceTab) : Calls Tryz.prog 14 #[.string ⟨#[115, 116, 114, 105, 110, 103, 45, 108, 101, 110, 103, 116, 104]⟩, .int .i64 1] w fun e w' => e = .returned (.bool true) ∧ Below w.heap.size w w' := by
  have CK := Lib.hid (known_any ⟨#[115, 116, 114, 105, 110, 103, 45, 108, 101, 110, 103, 116, 104]⟩ 1 w htab)
  rw [show knownF ⟨#[115, 116, 114, 105, 110, 103, 45, 108, 101, 110, 103, 116, 104]⟩ 1 = true by decide +kernel] at CK
  have CP := Lib.hid (fun W => Tryz.strings_HasPrefix ⟨#[115, 116, 114, 105, 110, 103, 45, 108, 101, 110, 103, 116, 104]⟩ ⟨#[120, 115, 58]⟩ W)
  rw [show Lib.hasPrefix (⟨#[115, 116, 114, 105, 110, 103, 45, 108, 101, 110, 103, 116, 104]⟩ : ByteArray).data.toList (⟨#[120, 115, 58]⟩ : ByteArray).data.toList = false by decide +kernel] at CP
  clear htab
  go_enter Tryz.func14, Tryz.ntmps14
  go_wp2_with fail
  with_reducible refine CK.out.mono ?_
  rintro e w1 ⟨rfl, hb⟩
  go_wp2_with fail
  with_reducible refine (CP.out w1).mono ?_
  rintro e w2 ⟨rfl, rfl⟩
  go_wp2_with fail
  go_returns
  exact ⟨rfl, hb⟩
theorem has_substring_before_2 (w : World) (htab : Lib.TabIs Tryz.prog w "strings.asciiSpace" .u8 Lib.asciiSpaceTab) : Calls Tryz.prog 14 #[.string ⟨#[115, 117, 98, 115, 116, 114, 105, 110, 103, 45, 98, 101, 102, 111, 114, 101]⟩, .int .i64 2] w fun e w' => e = .returned (.bool true) ∧ Below w.heap.size w w' := by
  have CK := Lib.hid (known_any ⟨#[115, 117, 98, 115, 116, 114, 105, 110, 103, 45, 98, 101, 102, 111, 114, 101]⟩ 2 w htab)
  rw [show knownF ⟨#[115, 117, 98, 115, 116, 114, 105, 110, 103, 45, 98, 101, 102, 111, 114, 101]⟩ 2 = true by decide +kernel] at CK
  have CP := Lib.hid (fun W => Tryz.strings_HasPrefix ⟨#[115, 117, 98, 115, 116, 114, 105, 110, 103, 45, 98, 101, 102, 111, 114, 101]⟩ ⟨#[120, 115, 58]⟩ W)
  rw [show Lib.hasPrefix (⟨#[115, 117, 98, 115, 116, 114, 105, 110, 103, 45, 98, 101, 102, 111, 114, 101]⟩ : ByteArray).data.toList (⟨#[120, 115, 58]⟩ : ByteArray).data.toList = false by decide +kernel] at CP
  clear htab
  go_enter Tryz.func14, Tryz.ntmps14
  go_wp2_with fail
  with_reducible refine CK.out.mono ?_
  rintro e w1 ⟨rfl, hb⟩
  go_wp2_with fail
  with_reducible refine (CP.out w1).mono ?_
  rintro e w2 ⟨rfl, rfl⟩
  go_wp2_with fail
  go_returns
  exact ⟨rfl, hb⟩
theorem has_substring_after_2 (w : World) (htab : Lib.TabIs Tryz.prog w "strings.asciiSpace" .u8 Lib.asciiSpaceTab) : Calls Tryz.prog 14 #[.string ⟨#[115, 117, 98, 115, 116, 114, 105, 110, 103, 45, 97, 102, 116, 101, 114]⟩, .int .i64 2] w fun e w' => e = .returned (.bool true) ∧ Below w.heap.size w w' := by
  have CK := Lib.hid (known_any ⟨#[115, 117, 98, 115, 116, 114, 105, 110, 103, 45, 97, 102, 116, 101, 114]⟩ 2 w htab)
  rw [show knownF ⟨#[115, 117, 98, 115, 116, 114, 105, 110, 103, 45, 97, 102, 116, 101, 114]⟩ 2 = true by decide +kernel] at CK
  have CP := Lib.hid (fun W => Tryz.strings_HasPrefix ⟨#[115, 117, 98, 115, 116, 114, 105, 110, 103, 45, 97, 102, 116, 101, 114]⟩ ⟨#[120, 115, 58]⟩ W)
  rw [show Lib.hasPrefix (⟨#[115, 117, 98, 115, 116, 114, 105, 110, 103, 45, 97, 102, 116, 101, 114]⟩ : ByteArray).data.toList (⟨#[120, 115, 58]⟩ : ByteArray).data.toList = false by decide +kernel] at CP
  clear htab
  go_enter Tryz.func14, Tryz.ntmps14
  go_wp2_with fail
  with_reducible refine CK.out.mono ?_
  rintro e w1 ⟨rfl, hb⟩
  go_wp2_with fail
  with_reducible refine (CP.out w1).mono ?_
  rintro e w2 ⟨rfl, rfl⟩
  go_wp2_with fail
  go_returns
  exact ⟨rfl, hb⟩
theorem has_string_to_codepoints_1 (w : World) (htab : Lib.TabIs Tryz.prog w "strings.asciiSpace" .u8 Lib.asciiSpaceTab) : Calls Tryz.prog 14 #[.string ⟨#[115, 116, 114, 105, 110, 103, 45, 116, 111, 45, 99, 111, 100, 101, 112, 111, 105, 110, 116, 115]⟩, .int .i64 1] w fun e w' => e = .returned (.bool true) ∧ Below w.heap.size w w' := by
  have CK := Lib.hid (known_any ⟨#[115, 116, 114, 105, 110, 103, 45, 116, 111, 45, 99, 111, 100, 101, 112, 111, 105, 110, 116, 115]⟩ 1 w htab)
  rw [show knownF ⟨#[115, 116, 114, 105, 110, 103, 45, 116, 111, 45, 99, 111, 100, 101, 112, 111, 105, 110, 116, 115]⟩ 1 = true by decide +kernel] at CK
  have CP := Lib.hid (fun W => Tryz.strings_HasPrefix ⟨#[115, 116, 114, 105, 110, 103, 45, 116, 111, 45, 99, 111, 100, 101, 112, 111, 105, 110, 116, 115]⟩ ⟨#[120, 115, 58]⟩ W)
  rw [show Lib.hasPrefix (⟨#[115, 116, 114, 105, 110, 103, 45, 116, 111, 45, 99, 111, 100, 101, 112, 111, 105, 110, 116, 115]⟩ : ByteArray).data.toList (⟨#[120, 115, 58]⟩ : ByteArray).data.toList = false by decide +kernel] at CP
  clear htab
  go_enter Tryz.func14, Tryz.ntmps14
  go_wp2_with fail
  with_reducible refine CK.out.mono ?_
  rintro e w1 ⟨rfl, hb⟩
  go_wp2_with fail
  with_reducible refine (CP.out w1).mono ?_
  rintro e w2 ⟨rfl, rfl⟩
  go_wp2_with fail
  go_returns
  exact ⟨rfl, hb⟩
theorem has_codepoints_to_string_1 (w : World) (htab : Lib.TabIs Tryz.prog w "strings.asciiSpace" .u8 Lib.asciiSpaceTab) : Calls Tryz.prog 14 #[.string ⟨#[99, 111, 100, 101, 112, 111, 105, 110, 116, 115, 45, 116, 111, 45, 115, 116, 114, 105, 110, 103]⟩, .int .i64 1] w fun e w' => e = .returned (.bool true) ∧ Below w.heap.size w w' := by
  have CK := Lib.hid (known_any ⟨#[99, 111, 100, 101, 112, 111, 105, 110, 116, 115, 45, 116, 111, 45, 115, 116, 114, 105, 110, 103]⟩ 1 w htab)
  rw [show knownF ⟨#[99, 111, 100, 101, 112, 111, 105, 110, 116, 115, 45, 116, 111, 45, 115, 116, 114, 105, 110, 103]⟩ 1 = true by decide +kernel] at CK
  have CP := Lib.hid (fun W => Tryz.strings_HasPrefix ⟨#[99, 111, 100, 101, 112, 111, 105, 110, 116, 115, 45, 116, 111, 45, 115, 116, 114, 105, 110, 103]⟩ ⟨#[120, 115, 58]⟩ W)
  rw [show Lib.hasPrefix (⟨#[99, 111, 100, 101, 112, 111, 105, 110, 116, 115, 45, 116, 111, 45, 115, 116, 114, 105, 110, 103]⟩ : ByteArray).data.toList (⟨#[120, 115, 58]⟩ : ByteArray).data.toList = false by decide +kernel] at CP
  clear htab
  go_enter Tryz.func14, Tryz.ntmps14
  go_wp2_with fail
  with_reducible refine CK.out.mono ?_
  rintro e w1 ⟨rfl, hb⟩
  go_wp2_with fail
  with_reducible refine (CP.out w1).mono ?_
  rintro e w2 ⟨rfl, rfl⟩
  go_wp2_with fail
  go_returns
  exact ⟨rfl, hb⟩
theorem has_reverse_1 (w : World) (htab : Lib.TabIs Tryz.prog w "strings.asciiSpace" .u8 Lib.asciiSpaceTab) : Calls Tryz.prog 14 #[.string ⟨#[114, 101, 118, 101, 114, 115, 101]⟩, .int .i64 1] w fun e w' => e = .returned (.bool true) ∧ Below w.heap.size w w' := by
  have CK := Lib.hid (known_any ⟨#[114, 101, 118, 101, 114, 115, 101]⟩ 1 w htab)
  rw [show knownF ⟨#[114, 101, 118, 101, 114, 115, 101]⟩ 1 = true by decide +kernel] at CK
  have CP := Lib.hid (fun W => Tryz.strings_HasPrefix ⟨#[114, 101, 118, 101, 114, 115, 101]⟩ ⟨#[120, 115, 58]⟩ W)
  rw [show Lib.hasPrefix (⟨#[114, 101, 118, 101, 114, 115, 101]⟩ : ByteArray).data.toList (⟨#[120, 115, 58]⟩ : ByteArray).data.toList = false by decide +kernel] at CP
  clear htab
  go_enter Tryz.func14, Tryz.ntmps14
  go_wp2_with fail
  with_reducible refine CK.out.mono ?_
  rintro e w1 ⟨rfl, hb⟩
  go_wp2_with fail
  with_reducible refine (CP.out w1).mono ?_
  rintro e w2 ⟨rfl, rfl⟩
  go_wp2_with fail
  go_returns
  exact ⟨rfl, hb⟩
theorem has_subsequence_2 (w : World) (htab : Lib.TabIs Tryz.prog w "strings.asciiSpace" .u8 Lib.asciiSpaceTab) : Calls Tryz.prog 14 #[.string ⟨#[115, 117, 98, 115, 101, 113, 117, 101, 110, 99, 101]⟩, .int .i64 2] w fun e w' => e = .returned (.bool true) ∧ Below w.heap.size w w' := by
  have CK := Lib.hid (known_any ⟨#[115, 117, 98, 115, 101, 113, 117, 101, 110, 99, 101]⟩ 2 w htab)
  rw [show knownF ⟨#[115, 117, 98, 115, 101, 113, 117, 101, 110, 99, 101]⟩ 2 = true by decide +kernel] at CK
  have CP := Lib.hid (fun W => Tryz.strings_HasPrefix ⟨#[115, 117, 98, 115, 101, 113, 117, 101, 110, 99, 101]⟩ ⟨#[120, 115, 58]⟩ W)
  rw [show Lib.hasPrefix (⟨#[115, 117, 98, 115, 101, 113, 117, 101, 110, 99, 101]⟩ : ByteArray).data.toList (⟨#[120, 115, 58]⟩ : ByteArray).data.toList = false by decide +kernel] at CP
  clear htab
  go_enter Tryz.func14, Tryz.ntmps14
  go_wp2_with fail
  with_reducible refine CK.out.mono ?_
  rintro e w1 ⟨rfl, hb⟩
  go_wp2_with fail
  with_reducible refine (CP.out w1).mono ?_
  rintro e w2 ⟨rfl, rfl⟩
  go_wp2_with fail
  go_returns
  exact ⟨rfl, hb⟩
theorem has_subsequence_3 (w : World) (htab : Lib.TabIs Tryz.prog w "strings.asciiSpace" .u8 Lib.asciiSpaceTab) : Calls Tryz.prog 14 #[.string ⟨#[115, 117, 98, 115, 101, 113, 117, 101, 110, 99, 101]⟩, .int .i64 3] w fun e w' => e = .returned (.bool true) ∧ Below w.heap.size w w' := by
  have CK := Lib.hid (known_any ⟨#[115, 117, 98, 115, 101, 113, 117, 101, 110, 99, 101]⟩ 3 w htab)
  rw [show knownF ⟨#[115, 117, 98, 115, 101, 113, 117, 101, 110, 99, 101]⟩ 3 = true by decide +kernel] at CK
  have CP := Lib.hid (fun W => Tryz.strings_HasPrefix ⟨#[115, 117, 98, 115, 101, 113, 117, 101, 110, 99, 101]⟩ ⟨#[120, 115, 58]⟩ W)
  rw [show Lib.hasPrefix (⟨#[115, 117, 98, 115, 101, 113, 117, 101, 110, 99, 101]⟩ : ByteArray).data.toList (⟨#[120, 115, 58]⟩ : ByteArray).data.toList = false by decide +kernel] at CP
  clear htab
  go_enter Tryz.func14, Tryz.ntmps14
  go_wp2_with fail
  with_reducible refine CK.out.mono ?_
  rintro e w1 ⟨rfl, hb⟩
  go_wp2_with fail
  with_reducible refine (CP.out w1).mono ?_
  rintro e w2 ⟨rfl, rfl⟩
  go_wp2_with fail
  go_returns
  exact ⟨rfl, hb⟩
theorem has_sum_1 (w : World) (htab : Lib.TabIs Tryz.prog w "strings.asciiSpace" .u8 Lib.asciiSpaceTab) : Calls Tryz.prog 14 #[.string ⟨#[115, 117, 109]⟩, .int .i64 1] w fun e w' => e = .returned (.bool true) ∧ Below w.heap.size w w' := by
  have CK := Lib.hid (known_any ⟨#[115, 117, 109]⟩ 1 w htab)
  rw [show knownF ⟨#[115, 117, 109]⟩ 1 = true by decide +kernel] at CK
  have CP := Lib.hid (fun W => Tryz.strings_HasPrefix ⟨#[115, 117, 109]⟩ ⟨#[120, 115, 58]⟩ W)
  rw [show Lib.hasPrefix (⟨#[115, 117, 109]⟩ : ByteArray).data.toList (⟨#[120, 115, 58]⟩ : ByteArray).data.toList = false by decide +kernel] at CP
  clear htab
  go_enter Tryz.func14, Tryz.ntmps14
  go_wp2_with fail
  with_reducible refine CK.out.mono ?_
  rintro e w1 ⟨rfl, hb⟩
  go_wp2_with fail
  with_reducible refine (CP.out w1).mono ?_
  rintro e w2 ⟨rfl, rfl⟩
  go_wp2_with fail
  go_returns
  exact ⟨rfl, hb⟩
theorem has_max_1 (w : World) (htab : Lib.TabIs Tryz.prog w "strings.asciiSpace" .u8 Lib.asciiSpaceTab) : Calls Tryz.prog 14 #[.string ⟨#[109, 97, 120]⟩, .int .i64 1] w fun e w' => e = .returned (.bool true) ∧ Below w.heap.size w w' := by
  have CK := Lib.hid (known_any ⟨#[109, 97, 120]⟩ 1 w htab)
  rw [show knownF ⟨#[109, 97, 120]⟩ 1 = true by decide +kernel] at CK
  have CP := Lib.hid (fun W => Tryz.strings_HasPrefix ⟨#[109, 97, 120]⟩ ⟨#[120, 115, 58]⟩ W)
  rw [show Lib.hasPrefix (⟨#[109, 97, 120]⟩ : ByteArray).data.toList (⟨#[120, 115, 58]⟩ : ByteArray).data.toList = false by decide +kernel] at CP
  clear htab
  go_enter Tryz.func14, Tryz.ntmps14
  go_wp2_with fail
  with_reducible refine CK.out.mono ?_
  rintro e w1 ⟨rfl, hb⟩
  go_wp2_with fail
  with_reducible refine (CP.out w1).mono ?_
  rintro e w2 ⟨rfl, rfl⟩
  go_wp2_with fail
  go_returns
  exact ⟨rfl, hb⟩
end Go.Proofs.YtfagfkfcokmclaaGreatDoor
end
