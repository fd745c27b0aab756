/- caller.concat at texts. -/
import Derived.Test.YtfagfkfcokmclaaGreatDoorZLbF
import Derived.Test.YtfagfkfcokmclaaGreatDoorZLbA
set_option linter.unusedSimpArgs false
set_option linter.unusedVariables false
set_option linter.constructorNameAsVariable false
namespace Go.Proofs.YtfagfkfcokmclaaGreatDoor
open Go.RowKit Go.Sort

theorem astring_text (s : ByteArray) (w : World) : Calls Tryz.prog 69 #[.agg #[.int .i64 3, .int .i64 0, .int .i64 0, .string s, .bool false]] w fun e w' => e = .returned (.string s) ∧ Below w.heap.size w w' := by
  have hb : Below w.heap.size w (w.alloc (.cells #[.int .i64 3, .int .i64 0, .int .i64 0, .string s, .bool false] 24)) := (Below.refl _ _).alloc (Nat.le_refl _) _
  go_enter Tryz.func69, Tryz.ntmps69
  go_wp2_with fail
  go_returns
  exact ⟨rfl, hb⟩
/-- Texts put together. -/
def catB (l : List ByteArray) : ByteArray := ⟨(l.flatMap (fun t => t.data.toList)).toArray⟩
theorem catB_app (l m : List ByteArray) : catB (l ++ m) = catB l ++ catB m := by
  apply ByteArray.ext
  apply Array.ext'
  simp [catB, ByteArray.data_append]
theorem catB_one (t : ByteArray) : catB [t] = t := by
  apply ByteArray.ext
  apply Array.ext'
  simp [catB]
theorem catB_two (s t : ByteArray) : catB [s, t] = s ++ t := by
  rw [show [s, t] = [s] ++ [t] from rfl, catB_app, catB_one, catB_one]
theorem catB_take (l : List ByteArray) (j : Nat) : (catB (l.take j)).size ≤ (catB l).size := by
  conv => rhs; rw [← List.take_append_drop j l, catB_app]
  rw [ByteArray.size_append]
  omega
set_option maxRecDepth 100000 in
set_option maxHeartbeats 1600000 in
theorem cconcat_any (ts : List ByteArray) (hl : ts.length ≤ 1000) (hz : (catB ts).size ≤ 65536) (ab ao cc : Nat) (w : World) (h : ∀ j t, ts[j]? = some t → Arg1 w ab ao ts.length j (textA t)) :
    Calls Tryz.prog 34 #[.agg #[.pointer none, .slice (some ⟨ab, ao, none⟩) ts.length cc]] w fun e w' => ∃ v, e = .returned v ∧ OwnI w.heap.size w' v [textA (catB ts)] ∧ Below w.heap.size w w' := by
  have hb0 : Below w.heap.size w (w.alloc (.cells #[.pointer none, .slice (some ⟨ab, ao, none⟩) ts.length cc] 51)) := (Below.refl _ _).alloc (Nat.le_refl _) _
  have B0 : Blk (w.alloc (.cells #[.pointer none, .slice (some ⟨ab, ao, none⟩) ts.length cc] 51)) w.heap.size #[.pointer none, .slice (some ⟨ab, ao, none⟩) ts.length cc] 51 := Blk.new _ _ _
  have C1 : Hid (∀ (j : Nat) (t : ByteArray) (W : World), ts[j]? = some t → Below w.heap.size w W → Calls Tryz.prog 70 #[.agg #[.pointer none, .slice (some ⟨ab, ao, none⟩) ts.length cc], .int .i64 (j : Int)] W fun e w' => e = .returned (.tuple #[.agg #[.int .i64 3, .int .i64 0, .int .i64 0, .string t, .bool false], .bool true]) ∧ Below W.heap.size W w') := fun j t W hj hW => cone_one (textA t) ab ao ts.length cc j W ((h j t hj).on hW)
  have CS := Lib.hid astring_text
  have CT := Lib.hid text_row
  have HZ := Lib.hid (And.intro hz (catB_take ts))
  clear h hz
  go_enter Tryz.func34, Tryz.ntmps34
  go_wp2_with fail
  generalize w.alloc (.cells #[.pointer none, .slice (some ⟨ab, ao, none⟩) ts.length cc] 51) = W at *
  have c1 : W.cell? ⟨w.heap.size, 1, none⟩ = some (.slice (some ⟨ab, ao, none⟩) ts.length cc) := B0.cell 1
  have kB := B0.lt
  have HB := Lib.hid B0
  clear B0
  go_wp2_with fail
  clear c1 kB
  go_loopg [3, 10] (ts.length + 1) (fun m ss ii wr => ∃ (j : Nat) (S : ByteArray), j ≤ ts.length ∧ m + j = ts.length + 1 ∧ ii = .int .i64 (j : Int) ∧ ss = .string S ∧ Hid (S = catB (ts.take j)) ∧ Below W.heap.size W wr)
  case atStart => exact ⟨0, ⟨#[]⟩, by omega, by omega, rfl, rfl, rfl, Below.refl _ _⟩
  case round =>
    obtain ⟨j, S, hj, hmj, rfl, rfl, HS, hwr⟩ := hrel
    have hj0 : (0 : Int) ≤ (j : Int) := Int.natCast_nonneg _
    have hw0 := hb0.trans (hwr.mono hb0.size)
    by_cases hlt : j < ts.length
    · have i0 : decide ((j : Int) < (ts.length : Int)) = true := by simp; omega
      have i6 : (j : Int) < (ts.length : Int) := by omega
      obtain ⟨t, hjt⟩ : ∃ t, ts[j]? = some t := ⟨_, List.getElem?_eq_getElem hlt⟩
      have hts : S ++ t = catB (ts.take (j + 1)) := by
        rw [List.take_add_one, hjt, HS.out]
        show _ = catB (ts.take j ++ [t])
        rw [catB_app, catB_one]
      have hle : S.size + t.size ≤ 65536 := by
        have := HZ.out.2 (j + 1)
        rw [← hts, ByteArray.size_append] at this
        have := HZ.out.1
        omega
      have CA := Lib.hid (C1.out j t wr hjt hw0)
      have HTS := Lib.hid hts
      have B1 := HB.out.below hwr HB.out.lt
      have c0 : wr.cell? ⟨w.heap.size, 0, none⟩ = some (.pointer none) := B1.cell 0
      have c1 : wr.cell? ⟨w.heap.size, 1, none⟩ = some (.slice (some ⟨ab, ao, none⟩) ts.length cc) := B1.cell 1
      have kB := B1.lt
      clear hjt hts B1 HS
      go_wp2_with fail
      with_reducible refine CA.out.mono ?_
      rintro e w2 ⟨rfl, hb2⟩
      have hw2 := hwr.trans (hb2.mono hwr.size)
      have hw3 := hw2.alloc hw2.size (.cells #[.int .i64 3, .int .i64 0, .int .i64 0, .string t, .bool false] 24)
      clear CA hb2 c0 c1 kB
      go_wp2_with fail
      with_reducible refine (CS.out t _).mono ?_
      rintro e w4 ⟨rfl, hb4⟩
      have hw4 := hw3.trans (hb4.mono hw3.size)
      clear hb4
      go_wp2_with fail
      go_roundg (gk - 1)
      case measure => omega
      case rel => exact ⟨j + 1, S ++ t, by omega, by omega, by go_num, rfl, HTS.out, hw4⟩
    · have i0 : decide ((j : Int) < (ts.length : Int)) = false := by simp; omega
      have hS : S = catB ts := by
        rw [HS.out, List.take_of_length_le (by omega)]
      have HS2 := Lib.hid hS
      clear hS HS
      go_wp2_with fail
      with_reducible refine (CT.out S _).mono ?_
      rintro e w4 ⟨v, rfl, hO, hb4⟩
      have HO := Lib.hid (OwnI.low hO hw0.size)
      have hw4 := hw0.trans (hb4.mono hw0.size)
      clear hO hb4
      go_wp2_with fail
      go_returns
      exact ⟨_, rfl, HS2.out ▸ HO.out, hw4⟩
end Go.Proofs.YtfagfkfcokmclaaGreatDoor
