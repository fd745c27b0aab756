/- Texts put together: LcB, LcC. -/
import Derived.Test.YtfagfkfcokmclaaGreatDoorZLcA
import Derived.Test.YtfagfkfcokmclaaGreatDoorZLbK
import Derived.Test.YtfagfkfcokmclaaGreatDoorZLbV
import Derived.Test.YtfagfkfcokmclaaGreatDoorZLbR
import Derived.Test.YtfagfkfcokmclaaGreatDoorZLbS
import Derived.Test.YtfagfkfcokmclaaGreatDoorZLbH
section
set_option linter.unusedSimpArgs false
set_option linter.unusedVariables false
set_option linter.constructorNameAsVariable false
namespace Go.Proofs.YtfagfkfcokmclaaGreatDoor
open Go.RowKit Go.Sort

/-- The table of spaces lies. -/
def Sp (w : World) : Prop := Lib.TabIs Tryz.prog w "strings.asciiSpace" .u8 Lib.asciiSpaceTab
theorem Sp.on {w w' : World} (h : Sp w) (hb : Below w.heap.size w w') : Sp w' := Lib.tabBelow_of_tabIs h w' hb
/-- A call's arguments out of the block that holds them. -/
theorem arg1_of {W : World} {b n i : Nat} {cells : Array Value} {t : TypeId} {a : Option Addr} {c : Nat} {x : At} (hB : Blk W b cells t) (hc : cells[i]? = some (.slice a 1 c)) (hI : ItRow W a [x]) (hi : i < n) (hn : n ≤ 1000000) (hx : x.t.size ≤ 65536) : Arg1 W b 0 n i x :=
  ⟨hi, hn, hB.lt, ⟨a, c, by rw [Nat.zero_add, hB.cell]; exact hc, hI⟩, hx⟩
theorem argR_of {W : World} {b n i : Nat} {cells : Array Value} {t : TypeId} {a : Option Addr} {c : Nat} {xs : List At} (hB : Blk W b cells t) (hc : cells[i]? = some (.slice a xs.length c)) (hI : ItRow W a xs) (hi : i < n) (hn : n ≤ 1000000) (hx : sumT xs ≤ 65536) (hl : xs.length ≤ 100000000) : ArgR W b 0 n i xs :=
  ⟨hi, hn, hB.lt, ⟨a, c, by rw [Nat.zero_add, hB.cell]; exact hc, hI⟩, hx, hl⟩
theorem OwnI.it {w : World} {base : Nat} {v : Value} {xs : List At} (h : OwnI base w v xs) : ∃ a c, v = .slice a xs.length c ∧ ItRow w a xs := by
  obtain ⟨a, c, h1, h2, -⟩ := h.read
  exact ⟨a, c, h1, h2⟩
/-- What a call of the library answers. -/
def Ans (xs : List At) (w : World) (e : Ending) (w' : World) : Prop := ∃ v, e = .returned (.tuple #[v, .int .i64 0]) ∧ OwnI w.heap.size w' v xs ∧ Below w.heap.size w w'
theorem part_small (s : ByteArray) (hv : Lib.validD s.data.toList = true) (f c : Int) : (partT s f c).size ≤ s.size := by
  have h1 := pts_enc _ hv
  have h2 : (((ptsD s.data.toList).drop f.toNat).take c.toNat).Sublist (ptsD s.data.toList) := (List.take_sublist _ _).trans (List.drop_sublist _ _)
  have h3 : ∀ (l m : List Int), l.Sublist m → (l.flatMap Lib.encodeRune).length ≤ (m.flatMap Lib.encodeRune).length := by
    intro l m h
    induction h with
    | slnil => simp
    | cons a _ ih => rw [List.flatMap_cons, List.length_append]; omega
    | cons_cons a _ ih => rw [List.flatMap_cons, List.flatMap_cons, List.length_append, List.length_append]; omega
  have h4 := h3 _ _ h2
  rw [h1] at h4
  have h5 : (partT s f c).size = ((((ptsD s.data.toList).drop f.toNat).take c.toNat).flatMap Lib.encodeRune).length := by
    unfold partT
    simp [ByteArray.size]
  rw [h5]
  simpa using h4
theorem call_substring2 (s : ByteArray) (hv : Lib.validD s.data.toList = true) (hs : s.size ≤ 65536) (f : Int) (hf : -10000000 ≤ f ∧ f ≤ 10000000) (ab cc : Nat) (w : World) (hS : Sp w) (h0 : Arg1 w ab 0 2 0 (textA s)) (h1 : Arg1 w ab 0 2 1 (ofA f)) :
    Calls Tryz.prog 9 #[.pointer none, .string ⟨#[115, 117, 98, 115, 116, 114, 105, 110, 103]⟩, .slice (some ⟨ab, 0, none⟩) 2 cc] w (Ans [textA (partT s (max f 1 - 1) ((Lib.runeCount s : Int) + 1 - max f 1))] w) := by
  have hr := Lib.runeCount_le s
  refine lcall_of _ _ 2 cc (some ⟨ab, 0, none⟩) rfl _ w (fun W hW => has_substring_2 W (hS.on hW)) (fun W hW => do_substring _ 2 cc (some ⟨ab, 0, none⟩) W (fun V hV => ?_)) ?_ (by show (1 : Nat) ≤ _; omega)
  · have hV2 := hW.trans (hV.mono hW.size)
    exact cstrings_sub s hs f ((Lib.runeCount s : Int) + 1) (by omega) (by omega) 2 ab 0 cc V (h0.on hV2) (fun U hU => cpart_two _ f (by omega) (by omega) ab 0 cc U ((h1.on hV2).on hU))
  · intro x hx
    simp only [List.mem_singleton] at hx
    subst hx
    exact Nat.le_trans (part_small s hv _ _) hs
theorem call_index (xs : List At) (y : At) (hxs : ∀ x ∈ xs, RA x) (hy : RA y) (hl : xs.length ≤ 1000000) (ab cc : Nat) (w : World) (hS : Sp w) (h0 : ArgR w ab 0 2 0 xs) (h1 : Arg1 w ab 0 2 1 y) :
    Calls Tryz.prog 9 #[.pointer none, .string ⟨#[105, 110, 100, 101, 120, 45, 111, 102]⟩, .slice (some ⟨ab, 0, none⟩) 2 cc] w (Ans ((placesF (eqA y) xs).map ofA) w) := by
  have hp := places_len (eqA y) xs
  refine lcall_of _ _ 2 cc (some ⟨ab, 0, none⟩) rfl _ w (fun W hW => has_index_of_2 W (hS.on hW)) (fun W hW => do_index_of _ 2 cc (some ⟨ab, 0, none⟩) W (fun V hV => ?_)) ?_ (by rw [List.length_map]; omega)
  · have hV2 := hW.trans (hV.mono hW.size)
    exact crows_index xs y hxs hy hl ab 0 cc V (h0.on hV2) (h1.on hV2)
  · intro x hx
    obtain ⟨n, -, rfl⟩ := List.mem_map.1 hx
    show (0 : Nat) ≤ _
    omega
theorem call_nothing (w : World) (hS : Sp w) : Calls Tryz.prog 9 #[.pointer none, .string ⟨#[110, 111, 116, 104, 105, 110, 103]⟩, .slice none 0 0] w fun e w' => e = .returned (.tuple #[.slice none 0 0, .int .i64 42]) ∧ Below w.heap.size w w' :=
  lcall_no _ w (fun W hW => has_nothing_0 W (hS.on hW))
end Go.Proofs.YtfagfkfcokmclaaGreatDoor
end
section
set_option linter.unusedSimpArgs false
set_option linter.unusedVariables false
set_option linter.constructorNameAsVariable false
namespace Go.Proofs.YtfagfkfcokmclaaGreatDoor
open Go.RowKit Go.Sort

/-- A row of numbers that was just laid. -/
theorem NsRow.new (w : World) (ns : List Int) (t : TypeId) : NsRow (w.alloc (.cells (ns.map (Value.int .i64)).toArray t)) (some ⟨w.heap.size, 0, none⟩) ns := by
  rcases ns with - | ⟨n, r⟩
  · exact .inl rfl
  · have hB := Blk.new w ((n :: r).map (Value.int .i64)).toArray t
    exact .inr ⟨w.heap.size, 0, rfl, hB.lt, fun j x hx => by rw [Nat.zero_add, hB.cell, List.getElem?_toArray, List.getElem?_map, hx]; rfl⟩
theorem NsRow.on {w w' : World} {a : Option Addr} {ns : List Int} (h : NsRow w a ns) (hb : Below w.heap.size w w') : NsRow w' a ns := by
  rcases h with h | ⟨b, o, rfl, hl, hc⟩
  · exact .inl h
  · exact .inr ⟨b, o, rfl, Nat.lt_of_lt_of_le hl hb.size, fun j x hj => (hb.cell (p := ⟨b, _, none⟩) hl).trans (hc j x hj)⟩
/-- The law's 'of' at numbers just laid. -/
theorem l19of_new (ns : List Int) (hl : ns.length ≤ 1000000) (w : World) (C : Array Value) (hC : C = (ns.map (Value.int .i64)).toArray) : Calls Tryz.prog 13 #[.slice (some ⟨w.heap.size, 0, none⟩) ns.length ns.length] (w.alloc (.cells C 3)) fun e w' => ∃ a c, e = .returned (.slice a ns.length c) ∧ ItRow w' a (ns.map ofA) ∧ Below w.heap.size w w' := by
  subst hC
  refine (l19of_any ns _ ns.length _ (NsRow.new w ns 3) (by omega)).mono ?_
  rintro e w' ⟨v, rfl, hO, hb⟩
  obtain ⟨a, c, rfl, hI⟩ := hO.it
  rw [List.length_map]
  exact ⟨a, c, rfl, hI, ((Below.refl _ _).alloc (Nat.le_refl _) _).trans (hb.mono (by simp))⟩
set_option maxRecDepth 100000 in
set_option maxHeartbeats 1600000 in
theorem awake_any (w : World) (hS : Sp w) : Calls Tryz.prog 7 #[] w fun e w' => e = .returned (.bool true) ∧ Below w.heap.size w w' := by
  have CT := Lib.hid l19text_any
  have HS := Lib.hid hS
  have CF1 : Hid (∀ (n : Int) (W : World), Calls Tryz.prog 13 #[.slice (some ⟨W.heap.size, 0, none⟩) 1 1] (W.alloc (.cells #[.int .i64 n] 3)) fun e w' => ∃ a c, e = .returned (.slice a 1 c) ∧ ItRow w' a [ofA n] ∧ Below W.heap.size W w') := fun n W => l19of_new [n] (by show (1 : Nat) ≤ _; omega) W _ rfl
  have CF3 : Hid (∀ (n m k : Int) (W : World), Calls Tryz.prog 13 #[.slice (some ⟨W.heap.size, 0, none⟩) 3 3] (W.alloc (.cells #[.int .i64 n, .int .i64 m, .int .i64 k] 3)) fun e w' => ∃ a c, e = .returned (.slice a 3 c) ∧ ItRow w' a [ofA n, ofA m, ofA k] ∧ Below W.heap.size W w') := fun n m k W => l19of_new [n, m, k] (by show (3 : Nat) ≤ _; omega) W _ rfl
  have CF2 : Hid (∀ (n m : Int) (W : World), Calls Tryz.prog 13 #[.slice (some ⟨W.heap.size, 0, none⟩) 2 2] (W.alloc (.cells #[.int .i64 n, .int .i64 m] 3)) fun e w' => ∃ a c, e = .returned (.slice a 2 c) ∧ ItRow w' a [ofA n, ofA m] ∧ Below W.heap.size W w') := fun n m W => l19of_new [n, m] (by show (2 : Nat) ≤ _; omega) W _ rfl
  have CH1 := Lib.hid (fun (W : World) (h : Sp W) => has_count_1 W h)
  have CH2 := Lib.hid (fun (W : World) (h : Sp W) => has_doc_1 W h)
  clear hS
  go_enter Tryz.func7, Tryz.ntmps7
  go_wp2_with fail
  with_reducible refine (CT.out _ w).mono ?_
  rintro e w1 ⟨rfl, hI1, hb1⟩
  have HI1 := Lib.hid hI1
  clear hI1
  go_wp2_with fail
  with_reducible refine (CF1.out _ w1).mono ?_
  rintro e w2 ⟨a2, c2, rfl, hI2, hb2⟩
  have hw2 := hb1.trans (hb2.mono hb1.size)
  have CA : Hid (Calls Tryz.prog 9 #[.pointer none, .string ⟨#[115, 117, 98, 115, 116, 114, 105, 110, 103]⟩, .slice (some ⟨w2.heap.size, 0, none⟩) 2 2] (w2.alloc (.cells #[.slice (some ⟨w.heap.size, 0, none⟩) 1 1, .slice a2 1 c2] 29)) fun e w' => ∃ a c, e = .returned (.tuple #[.slice a 1 c, .int .i64 0]) ∧ ItRow w' a [textA ⟨#[98, 99]⟩] ∧ Below w2.heap.size w2 w') := by
    have hbb : Below w2.heap.size w2 (w2.alloc (.cells #[.slice (some ⟨w.heap.size, 0, none⟩) 1 1, .slice a2 1 c2] 29)) := (Below.refl _ _).alloc (Nat.le_refl _) _
    have hB := Blk.new w2 #[.slice (some ⟨w.heap.size, 0, none⟩) 1 1, .slice a2 1 c2] 29
    refine (call_substring2 ⟨#[97, 98, 99]⟩ (by decide +kernel) (by decide) 2 (by omega) w2.heap.size 2 _ (HS.out.on (hw2.alloc hw2.size _)) (arg1_of hB rfl ((HI1.out.on hb2).on hbb) (by omega) (by omega) (by decide)) (arg1_of hB rfl (hI2.on hbb) (by omega) (by omega) (by decide))).mono ?_
    rintro e w' ⟨v, rfl, hO, hb⟩
    obtain ⟨a, c, rfl, hI⟩ := hO.it
    rw [show textA (partT ⟨#[97, 98, 99]⟩ (max 2 1 - 1) ((Lib.runeCount ⟨#[97, 98, 99]⟩ : Int) + 1 - max 2 1)) = textA ⟨#[98, 99]⟩ by kernel_rfl] at hI
    exact ⟨a, c, rfl, hI, hbb.trans (hb.mono (by simp))⟩
  clear HI1 hI2 hb1 hb2
  go_wp2_with fail
  with_reducible refine CA.out.mono ?_
  rintro e w3 ⟨a3, c3, rfl, hI3, hb3⟩
  have hw3 := hw2.trans (hb3.mono hw2.size)
  have HI3 := Lib.hid hI3
  clear CA hI3 hb3 hw2
  go_wp2_with fail
  with_reducible refine (CF3.out _ _ _ w3).mono ?_
  rintro e w4 ⟨a4, c4, rfl, hI4, hb4⟩
  have HI4 := Lib.hid hI4
  have HI3' := Lib.hid (HI3.out.on hb4)
  have hw4 := hw3.trans (hb4.mono hw3.size)
  clear hI4 HI3 hb4 hw3
  go_wp2_with fail
  with_reducible refine (CF1.out _ w4).mono ?_
  rintro e w5 ⟨a5, c5, rfl, hI5, hb5⟩
  have hw5 := hw4.trans (hb5.mono hw4.size)
  have HI3 := Lib.hid (HI3'.out.on hb5)
  have CA : Hid (Calls Tryz.prog 9 #[.pointer none, .string ⟨#[105, 110, 100, 101, 120, 45, 111, 102]⟩, .slice (some ⟨w5.heap.size, 0, none⟩) 2 2] (w5.alloc (.cells #[.slice a4 3 c4, .slice a5 1 c5] 29)) fun e w' => ∃ a c, e = .returned (.tuple #[.slice a 2 c, .int .i64 0]) ∧ ItRow w' a [ofA 1, ofA 3] ∧ Below w5.heap.size w5 w') := by
    have hbb : Below w5.heap.size w5 (w5.alloc (.cells #[.slice a4 3 c4, .slice a5 1 c5] 29)) := (Below.refl _ _).alloc (Nat.le_refl _) _
    have hB := Blk.new w5 #[.slice a4 3 c4, .slice a5 1 c5] 29
    have h12 : ∀ n : Int, -5 ≤ n → n ≤ 5 → RA (ofA n) := fun n h1 h2 => .int n ⟨by omega, by omega, by omega, by omega, fun h => by omega⟩
    refine (call_index [ofA 1, ofA 2, ofA 1] (ofA 1) (fun x hx => by
      simp only [List.mem_cons, List.not_mem_nil, or_false] at hx
      rcases hx with rfl | rfl | rfl <;> exact h12 _ (by omega) (by omega)) (h12 1 (by omega) (by omega)) (by decide) w5.heap.size 2 _ (HS.out.on (hw5.alloc hw5.size _)) (argR_of hB rfl ((HI4.out.on hb5).on hbb) (by omega) (by omega) (by decide) (by decide)) (arg1_of hB rfl (hI5.on hbb) (by omega) (by omega) (by decide))).mono ?_
    rintro e w' ⟨v, rfl, hO, hb⟩
    rw [show (placesF (eqA (ofA 1)) [ofA 1, ofA 2, ofA 1]).map ofA = [ofA 1, ofA 3] by kernel_rfl] at hO
    obtain ⟨a, c, rfl, hI⟩ := hO.it
    exact ⟨a, c, rfl, hI, hbb.trans (hb.mono (by simp))⟩
  clear HI4 HI3' hI5 hb5 hw4
  go_wp2_with fail
  with_reducible refine CA.out.mono ?_
  rintro e w6 ⟨a6, c6, rfl, hI6, hb6⟩
  have hw6 := hw5.trans (hb6.mono hw5.size)
  have HI6 := Lib.hid hI6
  have HI3' := Lib.hid (HI3.out.on hb6)
  have CN := Lib.hid (call_nothing w6 (HS.out.on hw6))
  clear CA hI6 HI3 hb6 hw5
  go_wp2_with fail
  with_reducible refine CN.out.mono ?_
  rintro e w7 ⟨rfl, hb7⟩
  have hw7 := hw6.trans (hb7.mono hw6.size)
  have HI6' := Lib.hid (HI6.out.on hb7)
  have HI3 := Lib.hid (HI3'.out.on hb7)
  clear CN HI6 HI3' hb7 hw6
  go_wp2_with fail
  with_reducible refine (CT.out _ w7).mono ?_
  rintro e w8 ⟨rfl, hI8, hb8⟩
  have hw8 := hw7.trans (hb8.mono hw7.size)
  have HI6 := Lib.hid (HI6'.out.on hb8)
  have CS : Hid (Calls Tryz.prog 10 #[.slice a3 1 c3, .slice (some ⟨w7.heap.size, 0, none⟩) 1 1] w8 fun e w' => e = .returned (.bool true) ∧ Below w8.heap.size w8 w') := same_eq [textA ⟨#[98, 99]⟩] a3 c3 _ 1 w8 (HI3.out.on hb8) hI8 (by decide)
  clear HI6' HI3 hI8 hb8 hw7
  go_wp2_with fail
  with_reducible refine CS.out.mono ?_
  rintro e w9 ⟨rfl, hb9⟩
  have hw9 := hw8.trans (hb9.mono hw8.size)
  have HI6' := Lib.hid (HI6.out.on hb9)
  clear CS HI6 hb9 hw8
  go_wp2_with fail
  with_reducible refine (CF2.out _ _ w9).mono ?_
  rintro e w10 ⟨a10, c10, rfl, hI10, hb10⟩
  have hw10 := hw9.trans (hb10.mono hw9.size)
  have CS : Hid (Calls Tryz.prog 10 #[.slice a6 2 c6, .slice a10 2 c10] w10 fun e w' => e = .returned (.bool true) ∧ Below w10.heap.size w10 w') := same_eq [ofA 1, ofA 3] a6 c6 a10 c10 w10 (HI6'.out.on hb10) hI10 (by decide)
  clear HI6' hI10 hb10 hw9
  go_wp2_with fail
  with_reducible refine CS.out.mono ?_
  rintro e w11 ⟨rfl, hb11⟩
  have hw11 := hw10.trans (hb11.mono hw10.size)
  clear CS hb11 hw10
  go_wp2_with fail
  with_reducible refine (CH1.out w11 (HS.out.on hw11)).mono ?_
  rintro e w12 ⟨rfl, hb12⟩
  have hw12 := hw11.trans (hb12.mono hw11.size)
  clear hb12 hw11
  go_wp2_with fail
  with_reducible refine (CH2.out w12 (HS.out.on hw12)).mono ?_
  rintro e w13 ⟨rfl, hb13⟩
  have hw13 := hw12.trans (hb13.mono hw12.size)
  go_wp2_with fail
  go_returns
  exact ⟨rfl, hw13⟩
end Go.Proofs.YtfagfkfcokmclaaGreatDoor
end
