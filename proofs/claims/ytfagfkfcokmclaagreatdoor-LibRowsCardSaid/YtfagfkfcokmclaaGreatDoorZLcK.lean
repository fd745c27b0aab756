/- lib.Call at texts. -/
import Derived.Test.YtfagfkfcokmclaaGreatDoorZLcJ
import Derived.Test.YtfagfkfcokmclaaGreatDoorZLcI
import Derived.Test.YtfagfkfcokmclaaGreatDoorZLcB
set_option linter.unusedSimpArgs false
set_option linter.unusedVariables false
set_option linter.constructorNameAsVariable false
namespace Go.Proofs.YtfagfkfcokmclaaGreatDoor
open Go.RowKit Go.Sort

theorem call_concat2 (s t : ByteArray) (hz : (s ++ t).size ≤ 65536) (ab cc : Nat) (w : World) (hS : Sp w) (h0 : Arg1 w ab 0 2 0 (textA s)) (h1 : Arg1 w ab 0 2 1 (textA t)) :
    Calls Tryz.prog 9 #[.pointer none, .string ⟨#[99, 111, 110, 99, 97, 116]⟩, .slice (some ⟨ab, 0, none⟩) 2 cc] w (Ans [textA (s ++ t)] w) := by
  refine lcall_of _ _ 2 cc (some ⟨ab, 0, none⟩) rfl _ w (fun W hW => has_concat_2 W (hS.on hW)) (fun W hW => do_concat _ 2 cc (some ⟨ab, 0, none⟩) W (fun V hV => ?_)) ?_ (by show (1 : Nat) ≤ _; omega)
  · have hV2 := hW.trans (hV.mono hW.size)
    have := cconcat_any [s, t] (by show (2 : Nat) ≤ _; omega) (by rw [catB_two]; exact hz) ab 0 cc V (fun j x hx => by
      match j, hx with
      | 0, hx => cases hx; exact h0.on hV2
      | 1, hx => cases hx; exact h1.on hV2
      | j + 2, hx => cases hx)
    rw [catB_two] at this
    exact this
  · intro x hx
    simp only [List.mem_singleton] at hx
    subst hx
    exact hz
theorem size_arr (l : List UInt8) : (⟨l.toArray⟩ : ByteArray).size = l.length := by
  show l.toArray.size = _
  rw [List.size_toArray]
theorem cut_small (a b : ByteArray) (ha : a.size ≤ 65536) : (cutA a b).size ≤ 65536 ∧ (cutB a b).size ≤ 65536 ∧ (cutAO a b).size ≤ 65536 := by
  have hz : a.data.toList.length = a.size := by simp
  have h1 : (cutA a b).size ≤ a.size := by
    unfold cutA Lib.cut
    rw [size_arr]
    split
    · rw [← hz]; exact List.length_take_le' _ _
    · show a.data.toList.length ≤ _; omega
  have h2 : (cutB a b).size ≤ a.size := by
    unfold cutB Lib.cut
    rw [size_arr]
    split
    · rw [← hz, List.length_drop]; omega
    · show (0 : Nat) ≤ _; omega
  refine ⟨by omega, by omega, ?_⟩
  unfold cutAO
  split
  · omega
  · show (0 : Nat) ≤ _
    omega
section
variable (a b : ByteArray) (ha : a.size ≤ 65536) (ab cc : Nat) (m : Int) (w : World) (hL : LaidE m w) (h0 : Arg1 w ab 0 2 0 (textA a)) (h1 : Arg1 w ab 0 2 1 (textA b))
include ha hL h0 h1
theorem call_contains : Calls Tryz.prog 9 #[.pointer none, .string ⟨#[99, 111, 110, 116, 97, 105, 110, 115]⟩, .slice (some ⟨ab, 0, none⟩) 2 cc] w (Ans [truthA (cutO a b)] w) := by
  refine lcall_of _ _ 2 cc (some ⟨ab, 0, none⟩) rfl _ w (fun W hW => has_contains_2 W (hL.sp.on hW)) (fun W hW => do_contains _ 2 cc (some ⟨ab, 0, none⟩) W (fun V hV => ?_)) ?_ (by show (1 : Nat) ≤ _; omega)
  · have hV2 := hW.trans (hV.mono hW.size)
    exact cstrings_contains a b ha 2 ab 0 cc m V (hL.on hV2) (h0.on hV2) (h1.on hV2)
  · intro x hx
    simp only [List.mem_singleton] at hx
    subst hx
    show (0 : Nat) ≤ _
    omega
theorem call_starts : Calls Tryz.prog 9 #[.pointer none, .string ⟨#[115, 116, 97, 114, 116, 115, 45, 119, 105, 116, 104]⟩, .slice (some ⟨ab, 0, none⟩) 2 cc] w (Ans [truthA (Lib.hasPrefix a.data.toList b.data.toList)] w) := by
  refine lcall_of _ _ 2 cc (some ⟨ab, 0, none⟩) rfl _ w (fun W hW => has_starts_with_2 W (hL.sp.on hW)) (fun W hW => do_starts_with _ 2 cc (some ⟨ab, 0, none⟩) W (fun V hV => ?_)) ?_ (by show (1 : Nat) ≤ _; omega)
  · have hV2 := hW.trans (hV.mono hW.size)
    exact cstrings_starts_with a b ha 2 ab 0 cc m V (hL.on hV2) (h0.on hV2) (h1.on hV2)
  · intro x hx
    simp only [List.mem_singleton] at hx
    subst hx
    show (0 : Nat) ≤ _
    omega
theorem call_ends : Calls Tryz.prog 9 #[.pointer none, .string ⟨#[101, 110, 100, 115, 45, 119, 105, 116, 104]⟩, .slice (some ⟨ab, 0, none⟩) 2 cc] w (Ans [truthA (Lib.hasSuffix a.data.toList b.data.toList)] w) := by
  refine lcall_of _ _ 2 cc (some ⟨ab, 0, none⟩) rfl _ w (fun W hW => has_ends_with_2 W (hL.sp.on hW)) (fun W hW => do_ends_with _ 2 cc (some ⟨ab, 0, none⟩) W (fun V hV => ?_)) ?_ (by show (1 : Nat) ≤ _; omega)
  · have hV2 := hW.trans (hV.mono hW.size)
    exact cstrings_ends_with a b ha 2 ab 0 cc m V (hL.on hV2) (h0.on hV2) (h1.on hV2)
  · intro x hx
    simp only [List.mem_singleton] at hx
    subst hx
    show (0 : Nat) ≤ _
    omega
theorem call_before : Calls Tryz.prog 9 #[.pointer none, .string ⟨#[115, 117, 98, 115, 116, 114, 105, 110, 103, 45, 98, 101, 102, 111, 114, 101]⟩, .slice (some ⟨ab, 0, none⟩) 2 cc] w (Ans [textA (cutAO a b)] w) := by
  refine lcall_of _ _ 2 cc (some ⟨ab, 0, none⟩) rfl _ w (fun W hW => has_substring_before_2 W (hL.sp.on hW)) (fun W hW => do_substring_before _ 2 cc (some ⟨ab, 0, none⟩) W (fun V hV => ?_)) ?_ (by show (1 : Nat) ≤ _; omega)
  · have hV2 := hW.trans (hV.mono hW.size)
    exact cstrings_substring_before a b ha 2 ab 0 cc m V (hL.on hV2) (h0.on hV2) (h1.on hV2)
  · intro x hx
    simp only [List.mem_singleton] at hx
    subst hx
    exact (cut_small a b ha).2.2
theorem call_after : Calls Tryz.prog 9 #[.pointer none, .string ⟨#[115, 117, 98, 115, 116, 114, 105, 110, 103, 45, 97, 102, 116, 101, 114]⟩, .slice (some ⟨ab, 0, none⟩) 2 cc] w (Ans [textA (cutB a b)] w) := by
  refine lcall_of _ _ 2 cc (some ⟨ab, 0, none⟩) rfl _ w (fun W hW => has_substring_after_2 W (hL.sp.on hW)) (fun W hW => do_substring_after _ 2 cc (some ⟨ab, 0, none⟩) W (fun V hV => ?_)) ?_ (by show (1 : Nat) ≤ _; omega)
  · have hV2 := hW.trans (hV.mono hW.size)
    exact cstrings_substring_after a b ha 2 ab 0 cc m V (hL.on hV2) (h0.on hV2) (h1.on hV2)
  · intro x hx
    simp only [List.mem_singleton] at hx
    subst hx
    exact (cut_small a b ha).2.1
end
theorem call_length (a : ByteArray) (ha : a.size ≤ 65536) (ab cc : Nat) (w : World) (hS : Sp w) (h0 : Arg1 w ab 0 1 0 (textA a)) :
    Calls Tryz.prog 9 #[.pointer none, .string ⟨#[115, 116, 114, 105, 110, 103, 45, 108, 101, 110, 103, 116, 104]⟩, .slice (some ⟨ab, 0, none⟩) 1 cc] w (Ans [ofA ((Lib.runeCount a : Nat) : Int)] w) := by
  refine lcall_of _ _ 1 cc (some ⟨ab, 0, none⟩) rfl _ w (fun W hW => has_string_length_1 W (hS.on hW)) (fun W hW => do_string_length _ 1 cc (some ⟨ab, 0, none⟩) W (fun V hV => ?_)) ?_ (by show (1 : Nat) ≤ _; omega)
  · have hV2 := hW.trans (hV.mono hW.size)
    exact cstrings_length a ha 1 ab 0 cc V (h0.on hV2)
  · intro x hx
    simp only [List.mem_singleton] at hx
    subst hx
    show (0 : Nat) ≤ _
    omega
end Go.Proofs.YtfagfkfcokmclaaGreatDoor
