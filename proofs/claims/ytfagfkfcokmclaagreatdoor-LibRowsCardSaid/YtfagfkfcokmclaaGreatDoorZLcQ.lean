/- caller.codepoints; caller.strings at 'string-to-codepoints'; the calls. -/
import Derived.Test.YtfagfkfcokmclaaGreatDoorZLcP
import Derived.Test.YtfagfkfcokmclaaGreatDoorZLcB
import Derived.Test.YtfagfkfcokmclaaGreatDoorZLcK
set_option linter.unusedSimpArgs false
set_option linter.unusedVariables false
set_option linter.constructorNameAsVariable false
namespace Go.Proofs.YtfagfkfcokmclaaGreatDoor
open Go.RowKit Go.Sort

set_option maxRecDepth 100000 in
set_option maxHeartbeats 1600000 in
theorem ccode_any (ps : List Int) (hx : ∀ p ∈ ps, xmlF p = true ∧ 0 ≤ p ∧ p ≤ 1114111) (hl : ps.length ≤ 1000000) (n ab ao cc : Nat) (w : World) (h0 : ArgR w ab ao n 0 (ps.map ofA)) :
    Calls Tryz.prog 39 #[.agg #[.pointer none, .slice (some ⟨ab, ao, none⟩) n cc]] w fun e w' => ∃ v, e = .returned v ∧ OwnI w.heap.size w' v [textA ⟨(ps.flatMap Lib.encodeRune).toArray⟩] ∧ Below w.heap.size w w' := by
  have hb0 : Below w.heap.size w (w.alloc (.cells #[.pointer none, .slice (some ⟨ab, ao, none⟩) n cc] 51)) := (Below.refl _ _).alloc (Nat.le_refl _) _
  have hlm : (ps.map ofA).length = ps.length := List.length_map _
  have C1 : Hid (Calls Tryz.prog 32 #[.agg #[.pointer none, .slice (some ⟨ab, ao, none⟩) n cc], .int .i64 0] (w.alloc (.cells #[.pointer none, .slice (some ⟨ab, ao, none⟩) n cc] 51)) fun e w' => ∃ a c, e = .returned (.slice a ps.length c) ∧ VRow w' a (ps.map ofA) ∧ (a = none → c = 0) ∧ Below (w.alloc (.cells #[.pointer none, .slice (some ⟨ab, ao, none⟩) n cc] 51)).heap.size (w.alloc (.cells #[.pointer none, .slice (some ⟨ab, ao, none⟩) n cc] 51)) w') := by
    have := catoms_row (ps.map ofA) ab ao n cc 0 _ (h0.on hb0)
    rw [hlm] at this
    exact this
  have CT := Lib.hid (fun (a : Option Addr) (c : Nat) (W : World) (h : IRow W a ps.length ps) => ctext_any ps a c W h hx hl)
  have CR := Lib.hid text_row
  clear h0 hx hlm
  generalize (⟨(ps.flatMap Lib.encodeRune).toArray⟩ : ByteArray) = T at *
  go_enter Tryz.func39, Tryz.ntmps39
  go_wp2_with fail
  with_reducible refine C1.out.mono ?_
  rintro e w1 ⟨a1, c1, rfl, hV, -, hb1⟩
  have hw1 := hb0.trans (hb1.mono hb0.size)
  have HT := Lib.hid hV
  clear C1 hV hb1 hb0
  go_wp2_with fail
  go_loopg [3, 11] (ps.length + 1) (fun m oo ii wr => ∃ j : Nat, j ≤ ps.length ∧ m + j = ps.length + 1 ∧ ii = .int .i64 (j : Int) ∧ ORow wr w1.heap.size oo (ps.take j) ∧ Below w1.heap.size w1 wr)
  case atStart => exact ⟨0, by omega, by omega, rfl, ORow.nil _ _, Below.refl _ _⟩
  case round =>
    obtain ⟨j, hj, hmj, rfl, hO, hwr⟩ := hrel
    have HO := Lib.hid hO
    have hj0 : (0 : Int) ≤ (j : Int) := Int.natCast_nonneg _
    by_cases hlt : j < ps.length
    · have i0 : decide ((j : Int) < (ps.length : Int)) = true := by simp; omega
      have i6 : (j : Int) < (ps.length : Int) := by omega
      obtain ⟨p, hjp⟩ : ∃ p, ps[j]? = some p := ⟨_, List.getElem?_eq_getElem hlt⟩
      have hjx : (ps.map ofA)[j]? = some (ofA p) := by rw [List.getElem?_map, hjp]; rfl
      rcases HT.out with h0 | ⟨b, o, rfl, hb, hc⟩
      · rw [List.map_eq_nil_iff] at h0; rw [h0] at hlt; simp at hlt
      obtain ⟨u0, u1, u2, u3, u4⟩ := hc j _ hjx
      replace u0 : wr.cell? ⟨b, o + j * 5, none⟩ = some (.int .i64 1) := (hwr.cell (p := ⟨b, o + j * 5, none⟩) hb).trans u0
      replace u1 : wr.cell? ⟨b, o + j * 5 + 1, none⟩ = some (.int .i64 p) := (hwr.cell (p := ⟨b, o + j * 5 + 1, none⟩) hb).trans u1
      replace u2 : wr.cell? ⟨b, o + j * 5 + 2, none⟩ = some (.int .i64 0) := (hwr.cell (p := ⟨b, o + j * 5 + 2, none⟩) hb).trans u2
      replace u3 : wr.cell? ⟨b, o + j * 5 + 3, none⟩ = some (.string ⟨#[]⟩) := (hwr.cell (p := ⟨b, o + j * 5 + 3, none⟩) hb).trans u3
      replace u4 : wr.cell? ⟨b, o + j * 5 + 4, none⟩ = some (.bool false) := (hwr.cell (p := ⟨b, o + j * 5 + 4, none⟩) hb).trans u4
      have lb := Nat.lt_of_lt_of_le hb hwr.size
      have htk : (ps.take j).length = j := by rw [List.length_take]; omega
      have hts : ps.take (j + 1) = ps.take j ++ [p] := by rw [List.take_add_one, hjp]; rfl
      have HTS := Lib.hid hts
      have hw2 : Below w1.heap.size w1 (wr.alloc (.cells #[.int .i64 1, .int .i64 p, .int .i64 0, .string ⟨#[]⟩, .bool false] 24)) := hwr.alloc hwr.size _
      have HO2 := Lib.hid (hO.below ((Below.refl wr.heap.size wr).alloc (Nat.le_refl _) (.cells #[.int .i64 1, .int .i64 p, .int .i64 0, .string ⟨#[]⟩, .bool false] 24)) (Nat.le_refl _))
      have hir := irow1 (wr.alloc (.cells #[.int .i64 1, .int .i64 p, .int .i64 0, .string ⟨#[]⟩, .bool false] 24)) p 3
      have hes : (wr.alloc (.cells #[.int .i64 1, .int .i64 p, .int .i64 0, .string ⟨#[]⟩, .bool false] 24)).heap.size = wr.heap.size + 1 := by simp
      rw [hes] at hir
      have HIR := Lib.hid hir
      clear hc hjx hjp hO hts hir hes
      go_wp2_with (at_builtin; refine wpList_app rfl _ _ rfl w1.heap.size _ (ps.take j) [p] rfl (HO2.out.below ((Below.refl _ _).alloc (Nat.le_refl _) _) (Nat.le_refl _)) _ 1 _ rfl HIR.out (by intro h; cases h) (by omega) (by simp; have := hwr.size; omega) ?_)
      intro v' w5 hO5 hb5
      have hw5 := (hw2.alloc hw2.size (.cells #[.int .i64 p] 3)).trans hb5
      rw [← HTS.out] at hO5
      go_wp2_with fail
      go_roundg (gk - 1)
      case measure => omega
      case rel => exact ⟨j + 1, by omega, by omega, by go_num, hO5, hw5⟩
    · have i0 : decide ((j : Int) < (ps.length : Int)) = false := by simp; omega
      have hO' := hO
      rw [List.take_of_length_le (by omega)] at hO'
      obtain ⟨a9, c9, rfl, hI⟩ := hO'.lit (by omega)
      have CC := Lib.hid (CT.out a9 c9 wr hI)
      have hwz := hw1.trans (hwr.mono hw1.size)
      clear hO hO' HO hI CT
      go_wp2_with fail
      with_reducible refine CC.out.mono ?_
      rintro e w2 ⟨rfl, hb2⟩
      have hw2 := hwz.trans (hb2.mono hwz.size)
      clear CC hb2
      go_wp2_with fail
      with_reducible refine (CR.out _ _).mono ?_
      rintro e w3 ⟨v, rfl, hO, hb3⟩
      have HO := Lib.hid (OwnI.low hO hw2.size)
      have hw3 := hw2.trans (hb3.mono hw2.size)
      clear hO hb3
      go_wp2_with fail
      go_returns
      exact ⟨_, rfl, HO.out, hw3⟩
set_option maxRecDepth 100000 in
set_option maxHeartbeats 1600000 in
theorem cstrings_points (a : ByteArray) (ha : a.size ≤ 65536) (n ab ao cc : Nat) (w : World) (h0 : Arg1 w ab ao n 0 (textA a)) :
    Calls Tryz.prog 53 #[.agg #[.pointer none, .slice (some ⟨ab, ao, none⟩) n cc], .string ⟨#[115, 116, 114, 105, 110, 103, 45, 116, 111, 45, 99, 111, 100, 101, 112, 111, 105, 110, 116, 115]⟩] w fun e w' => ∃ v, e = .returned v ∧ OwnI w.heap.size w' v ((ptsD a.data.toList).map ofA) ∧ Below w.heap.size w w' := by
  have hb0 : Below w.heap.size w (w.alloc (.cells #[.pointer none, .slice (some ⟨ab, ao, none⟩) n cc] 51)) := (Below.refl _ _).alloc (Nat.le_refl _) _
  have C1 : Hid (Calls Tryz.prog 37 #[.agg #[.pointer none, .slice (some ⟨ab, ao, none⟩) n cc], .int .i64 0] (w.alloc (.cells #[.pointer none, .slice (some ⟨ab, ao, none⟩) n cc] 51)) fun e w' => e = .returned (.string a) ∧ Below (w.alloc (.cells #[.pointer none, .slice (some ⟨ab, ao, none⟩) n cc] 51)).heap.size (w.alloc (.cells #[.pointer none, .slice (some ⟨ab, ao, none⟩) n cc] 51)) w') := cstr_any a ab ao n cc 0 _ (h0.on hb0)
  have C2 := Lib.hid (fun W => cpoints_any a (by omega) W)
  have hpl := pts_len a.data.toList
  have hz : a.data.toList.length = a.size := by simp
  generalize ptsD a.data.toList = ps at *
  have hpl2 : ps.length ≤ 1000000 := by omega
  have C4 := Lib.hid whole_row
  clear h0 hpl hz
  go_enter Tryz.func53, Tryz.ntmps53
  go_wp2_with fail
  with_reducible refine C1.out.mono ?_
  rintro e w1 ⟨rfl, hb1⟩
  have hw1 := hb0.trans (hb1.mono hb0.size)
  clear C1 hb1 hb0
  go_wp2_with fail
  with_reducible refine (C2.out w1).mono ?_
  rintro e w4 ⟨v, rfl, hO, hb4⟩
  obtain ⟨a5, c5, rfl, hI⟩ := hO.lit (by omega)
  have hw4 := hw1.trans (hb4.mono hw1.size)
  have HI := Lib.hid hI
  clear hI hO C2 hw1 hb4
  go_wp2_with fail
  go_loopg [8, 66] (ps.length + 1) (fun m oo ii wr => ∃ j : Nat, j ≤ ps.length ∧ m + j = ps.length + 1 ∧ ii = .int .i64 (j : Int) ∧ OwnI w4.heap.size wr oo ((ps.map ofA).take j) ∧ Below w4.heap.size w4 wr)
  case atStart => exact ⟨0, by omega, by omega, rfl, OwnI.nil _ _, Below.refl _ _⟩
  case round =>
    obtain ⟨j, hj, hmj, rfl, hO, hwr⟩ := hrel
    have HO := Lib.hid hO
    have hj0 : (0 : Int) ≤ (j : Int) := Int.natCast_nonneg _
    by_cases hlt : j < ps.length
    · have i0 : decide ((j : Int) < (ps.length : Int)) = true := by simp; omega
      have i6 : (j : Int) < (ps.length : Int) := by omega
      obtain ⟨x, hjx⟩ : ∃ x, ps[j]? = some x := ⟨_, List.getElem?_eq_getElem hlt⟩
      obtain ⟨b, o, rfl, hb, hc⟩ := HI.out.2.2 (by omega)
      have u0 := (hwr.cell (p := ⟨b, o + j, none⟩) hb).trans (hc j x hjx)
      have lb := Nat.lt_of_lt_of_le hb hwr.size
      have htk : ((ps.map ofA).take j).length = j := by rw [List.length_take, List.length_map]; omega
      have hts : (ps.map ofA).take (j + 1) = (ps.map ofA).take j ++ [ofA x] := by rw [List.take_add_one, List.getElem?_map, hjx]; rfl
      have HTS := Lib.hid hts
      clear hc hjx hO hts
      go_wp2_with (first
        | (go_at_call 28; with_reducible refine (C4.out _ _).mono ?_; rintro e w5 ⟨v5, rfl, hO5, hb5⟩
           obtain ⟨a6, c6, rfl, hI6, -⟩ := hO5.read
           rcases hI6 with h9 | ⟨b6, o6, rfl, hb6, hc6⟩
           · cases h9
           have HI6 : Hid (ItRow w5 (some ⟨b6, o6, none⟩) [ofA x]) := .inr ⟨b6, o6, rfl, hb6, hc6⟩
           have HO5 := Lib.hid (HO.out.on hb5)
           have hw5 := hwr.trans (hb5.mono hwr.size)
           have hs5 := hw5.size
           clear hO5 hc6)
        | (at_builtin; refine wpList_appI2 rfl _ _ rfl w4.heap.size _ ((ps.map ofA).take j) rfl HO5.out b6 o6 _ (ofA x) rfl HI6.out (by omega) hs5 ?_))
      intro v' w7 hO7 hb7
      have hw7 := hw5.trans hb7
      rw [← HTS.out] at hO7
      go_wp2_with fail
      go_roundg (gk - 1)
      case measure => omega
      case rel => exact ⟨j + 1, by omega, by omega, by go_num, hO7, hw7⟩
    · have i0 : decide ((j : Int) < (ps.length : Int)) = false := by simp; omega
      have hO' := hO
      rw [List.take_of_length_le (by rw [List.length_map]; omega)] at hO'
      have HO2 := Lib.hid (OwnI.low hO' hw4.size)
      have hw9 := hw4.trans (hwr.mono hw4.size)
      clear hO hO' HO
      go_wp2_with fail
      go_returns
      exact ⟨_, rfl, HO2.out, hw9⟩
theorem call_points (a : ByteArray) (ha : a.size ≤ 65536) (ab cc : Nat) (w : World) (hS : Sp w) (h0 : Arg1 w ab 0 1 0 (textA a)) :
    Calls Tryz.prog 9 #[.pointer none, .string ⟨#[115, 116, 114, 105, 110, 103, 45, 116, 111, 45, 99, 111, 100, 101, 112, 111, 105, 110, 116, 115]⟩, .slice (some ⟨ab, 0, none⟩) 1 cc] w (Ans ((ptsD a.data.toList).map ofA) w) := by
  have hpl := pts_len a.data.toList
  have hz : a.data.toList.length = a.size := by simp
  refine lcall_of _ _ 1 cc (some ⟨ab, 0, none⟩) rfl _ w (fun W hW => has_string_to_codepoints_1 W (hS.on hW)) (fun W hW => do_string_to_codepoints _ 1 cc (some ⟨ab, 0, none⟩) W (fun V hV => ?_)) ?_ (by rw [List.length_map]; omega)
  · exact cstrings_points a ha 1 ab 0 cc V (h0.on (hW.trans (hV.mono hW.size)))
  · intro x hx
    obtain ⟨n, -, rfl⟩ := List.mem_map.1 hx
    show (0 : Nat) ≤ _
    omega
theorem call_codes (ps : List Int) (hx : ∀ p ∈ ps, xmlF p = true ∧ 0 ≤ p ∧ p ≤ 1114111) (hl : ps.length ≤ 1000000) (hz : (ps.flatMap Lib.encodeRune).length ≤ 65536) (ab cc : Nat) (w : World) (hS : Sp w) (h0 : ArgR w ab 0 1 0 (ps.map ofA)) :
    Calls Tryz.prog 9 #[.pointer none, .string ⟨#[99, 111, 100, 101, 112, 111, 105, 110, 116, 115, 45, 116, 111, 45, 115, 116, 114, 105, 110, 103]⟩, .slice (some ⟨ab, 0, none⟩) 1 cc] w (Ans [textA ⟨(ps.flatMap Lib.encodeRune).toArray⟩] w) := by
  refine lcall_of _ _ 1 cc (some ⟨ab, 0, none⟩) rfl _ w (fun W hW => has_codepoints_to_string_1 W (hS.on hW)) (fun W hW => do_codepoints_to_string _ 1 cc (some ⟨ab, 0, none⟩) W (fun V hV => ?_)) ?_ (by show (1 : Nat) ≤ _; omega)
  · exact ccode_any ps hx hl 1 ab 0 cc V (h0.on (hW.trans (hV.mono hW.size)))
  · intro x hx
    simp only [List.mem_singleton] at hx
    subst hx
    show (⟨(ps.flatMap Lib.encodeRune).toArray⟩ : ByteArray).size ≤ 65536
    rw [size_arr]
    exact hz
theorem call_substring3 (s : ByteArray) (hv : Lib.validD s.data.toList = true) (hs : s.size ≤ 65536) (f k : Int) (hf : -10000000 ≤ f ∧ f ≤ 10000000) (hk : -10000000 ≤ k ∧ k ≤ 10000000) (ab cc : Nat) (w : World) (hS : Sp w) (h0 : Arg1 w ab 0 3 0 (textA s)) (h1 : Arg1 w ab 0 3 1 (ofA f)) (h2 : Arg1 w ab 0 3 2 (ofA k)) :
    Calls Tryz.prog 9 #[.pointer none, .string ⟨#[115, 117, 98, 115, 116, 114, 105, 110, 103]⟩, .slice (some ⟨ab, 0, none⟩) 3 cc] w (Ans [textA (partT s (max f 1 - 1) (f + k - max f 1))] w) := by
  refine lcall_of _ _ 3 cc (some ⟨ab, 0, none⟩) rfl _ w (fun W hW => has_substring_3 W (hS.on hW)) (fun W hW => do_substring _ 3 cc (some ⟨ab, 0, none⟩) W (fun V hV => ?_)) ?_ (by show (1 : Nat) ≤ _; omega)
  · have hV2 := hW.trans (hV.mono hW.size)
    exact cstrings_sub s hs f (f + k) (by omega) (by omega) 3 ab 0 cc V (h0.on hV2) (fun U hU => cpart_three _ f k (by omega) (by omega) ab 0 cc U ((h1.on hV2).on hU) ((h2.on hV2).on hU))
  · intro x hx
    simp only [List.mem_singleton] at hx
    subst hx
    exact Nat.le_trans (part_small s hv _ _) hs
end Go.Proofs.YtfagfkfcokmclaaGreatDoor
