/- char.Text, char.Points; caller.codepoints. -/
import Derived.Test.YtfagfkfcokmclaaGreatDoorZLcO
import Derived.Test.YtfagfkfcokmclaaGreatDoorZLbS
import Derived.Test.YtfagfkfcokmclaaGreatDoorZLbQ
import Derived.Laws.RangeString
import Derived.Laws.RangeAny
import Derived.LoopTactic
set_option linter.unusedSimpArgs false
set_option linter.unusedVariables false
set_option linter.constructorNameAsVariable false
namespace Go.Proofs.YtfagfkfcokmclaaGreatDoor
open Go.RowKit Go.Sort

theorem bcells_app (l m : List UInt8) : Lib.byteCells (l ++ m) = Lib.byteCells l ++ Lib.byteCells m := by
  simp [Lib.byteCells]
set_option maxHeartbeats 1600000 in
set_option maxRecDepth 100000 in
theorem ctext_any (ps : List Int) (a : Option Addr) (c : Nat) (w : World) (hI : IRow w a ps.length ps) (hx : ∀ p ∈ ps, xmlF p = true ∧ 0 ≤ p ∧ p ≤ 1114111) (hl : ps.length ≤ 1000000) :
    Calls Tryz.prog 74 #[.slice a ps.length c] w fun e w' => e = .returned (.tuple #[.string ⟨(ps.flatMap Lib.encodeRune).toArray⟩, .int .i64 0]) ∧ Below w.heap.size w w' := by
  have HT := Lib.hid hI
  have HX := Lib.hid hx
  have CS := Lib.hid (fun (l : List UInt8) (W : World) (h : Lib.IsBuilder 154 5 w.heap.size w.heap.size (Lib.byteCells l) W) (hB : w.heap.size ≤ W.heap.size) => Tryz.Builder_String_any w.heap.size w.heap.size l W h hB)
  have hz : Lib.IsBuilder 154 5 w.heap.size w.heap.size (Lib.byteCells []) (w.alloc (.cells #[.pointer none, .slice none 0 0] 154)) := by
    refine .inl ⟨Nat.le_refl _, .slice none 0 0, ?_, ?_, ?_⟩
    · exact (show Blk (w.alloc (.cells #[.pointer none, .slice none 0 0] 154)) w.heap.size #[.pointer none, .slice none 0 0] 154 from Blk.new _ _ _)
    · exact World.ownsRow_nil _ _ _ _
    · simp [Value.ownBlock]
  have HZ := Lib.hid hz
  clear hI hx hz
  go_enter Tryz.func74, Tryz.ntmps74
  go_wp2_with fail
  go_loopg [9] (ps.length + 1) (fun m ii wr => ∃ j : Nat, j ≤ ps.length ∧ m + j = ps.length + 1 ∧ ii = .int .i64 (j : Int) ∧ Hid (Lib.IsBuilder 154 5 w.heap.size w.heap.size (Lib.byteCells ((ps.take j).flatMap Lib.encodeRune)) wr) ∧ Below w.heap.size w wr)
  case atStart => exact ⟨0, by omega, by omega, rfl, HZ, (Below.refl _ _).alloc (Nat.le_refl _) _⟩
  case round =>
    obtain ⟨j, hj, hmj, rfl, HB, hwr⟩ := hrel
    have hj0 : (0 : Int) ≤ (j : Int) := Int.natCast_nonneg _
    by_cases hlt : j < ps.length
    · have i0 : decide ((j : Int) < (ps.length : Int)) = true := by simp; omega
      have i6 : (j : Int) < (ps.length : Int) := by omega
      obtain ⟨p, hjp⟩ : ∃ p, ps[j]? = some p := ⟨_, List.getElem?_eq_getElem hlt⟩
      obtain ⟨b, o, rfl, hb, hc⟩ := HT.out.2.2 (by omega)
      have u0 := (hwr.cell (p := ⟨b, o + j, none⟩) hb).trans (hc j p hjp)
      obtain ⟨x1, x2, x3⟩ := HX.out p (List.mem_of_getElem? hjp)
      have lb := Nat.lt_of_lt_of_le hb hwr.size
      have d1 : decide (p < 0) = false := decide_eq_false (by omega)
      have d2 : decide ((1114111 : Int) < p) = false := decide_eq_false (by omega)
      have CX := Lib.hid (fun W => cxml_any p W)
      rw [x1] at CX
      have hlen : (Lib.byteCells ((ps.take j).flatMap Lib.encodeRune)).length + 4 ≤ 140737488355328 := by
        have h4 : ∀ l : List Int, (l.flatMap Lib.encodeRune).length ≤ 4 * l.length := by
          intro l
          induction l with
          | nil => simp
          | cons r l ih =>
            have := Lib.runeCells_le r
            rw [Lib.runeCells_length] at this
            rw [List.flatMap_cons, List.length_append, List.length_cons]
            omega
        have := h4 (ps.take j)
        have h5 : (ps.take j).length ≤ j := List.length_take_le _ _
        simp only [Lib.byteCells, List.length_map]
        omega
      have CW := Lib.hid (brune_any w.heap.size w.heap.size _ p (by omega) (by omega) wr HB.out hlen hwr.size)
      have hts : Lib.byteCells ((ps.take j).flatMap Lib.encodeRune) ++ Lib.runeCells p = Lib.byteCells ((ps.take (j + 1)).flatMap Lib.encodeRune) := by
        rw [List.take_add_one, hjp, ← Lib.byteCells_encodeRune, ← bcells_app]
        congr 1
        simp
      have HTS := Lib.hid hts
      clear hc hjp hts hlen HB
      go_wp2_with fail
      with_reducible refine (CX.out wr).mono ?_
      rintro e w2 ⟨rfl, rfl⟩
      go_wp2_with fail
      with_reducible refine CW.out.mono ?_
      rintro e w3 ⟨rfl, hB3, hb3⟩
      rw [HTS.out] at hB3
      have HB3 : Hid (Lib.IsBuilder 154 5 w.heap.size w.heap.size (Lib.byteCells ((ps.take (j + 1)).flatMap Lib.encodeRune)) w3) := .inr hB3
      have hw3 := hwr.trans hb3
      clear hB3 hb3 CW HTS
      go_wp2_with fail
      go_roundg (gk - 1)
      case measure => omega
      case rel => exact ⟨j + 1, by omega, by omega, by go_num, HB3, hw3⟩
    · have i0 : decide ((j : Int) < (ps.length : Int)) = false := by simp; omega
      have hB := HB.out
      rw [List.take_of_length_le (by omega)] at hB
      have CZ := Lib.hid (CS.out _ wr hB hwr.size)
      clear hB HB CS
      go_wp2_with fail
      with_reducible refine CZ.out.mono ?_
      rintro e w3 ⟨rfl, hb3⟩
      have hw3 := hwr.trans hb3
      go_wp2_with fail
      go_ret2
      exact ⟨rfl, hw3⟩
set_option maxHeartbeats 1600000 in
set_option maxRecDepth 100000 in
theorem cpoints_any (s : ByteArray) (hs : s.size ≤ 1000000) (w : World) :
    Calls Tryz.prog 113 #[.string s] w fun e w' => ∃ v, e = .returned v ∧ ORow w' w.heap.size v (ptsD s.data.toList) ∧ Below w.heap.size w w' := by
  obtain ⟨L, hL⟩ : ∃ L, ptsD s.data.toList = L := ⟨_, rfl⟩
  have hLs : L.length ≤ 1000000 := by
    have := pts_len s.data.toList
    rw [hL] at this
    have hz : s.data.toList.length = s.size := by simp
    omega
  have HL := Lib.hid (And.intro hL hLs)
  rw [hL]
  clear hL hLs
  go_enter Tryz.func113, Tryz.ntmps113
  go_wp2_with fail
  go_loopg [3] (s.size + 1) (fun m oo wr => ∃ (pos fuel : Nat) (don : List Int), m = fuel + 1 ∧ wr.heap[w.heap.size]? = some (.stringIter s pos) ∧ Hid (don ++ ptsGo fuel (s.data.toList.drop pos) = L) ∧ ORow wr (w.heap.size + 1) oo don ∧ s.size ≤ pos + fuel ∧ Below w.heap.size w wr)
  case atStart => exact ⟨0, s.size, [], rfl, World.iter_heap w s 0, (by
    have h := HL.out.1
    unfold ptsD at h
    have hz : s.data.toList.length = s.size := by simp
    rw [hz] at h
    show [] ++ ptsGo s.size (s.data.toList.drop 0) = L
    rw [List.drop_zero]
    exact h), ORow.nil _ _, by omega, (Below.refl _ _).alloc (Nat.le_refl _) _⟩
  case round =>
    obtain ⟨pos, fuel, don, rfl, hit, HD, hO, hfu, hwr⟩ := hrel
    have hdl : don.length ≤ 1000000 := by
      have := congrArg List.length HD.out
      rw [List.length_append] at this
      have := HL.out.2
      omega
    by_cases hp : pos < s.size
    · obtain ⟨fuel, rfl⟩ : ∃ f', fuel = f' + 1 := ⟨fuel - 1, by omega⟩
      have hwd := Lib.decode_width_pos s pos hp
      have hdr := Lib.decodeL_drop s pos
      have hrg := Lib.decodeL_rune (s.data.toList.drop pos)
      have hstep : ptsGo (fuel + 1) (s.data.toList.drop pos) = ((Utf8.decode s pos).1 : Int) :: ptsGo fuel (s.data.toList.drop (pos + (Utf8.decode s pos).2)) := by
        show (if _ then _ else _) = _
        rw [if_neg (by
          intro h0
          have := congrArg List.length h0
          have hz : s.data.toList.length = s.size := by simp
          rw [List.length_drop, hz] at this
          simp at this
          omega), hdr, List.drop_drop]
      rw [hdr] at hrg
      have hD := HD.out
      rw [hstep] at hD
      have hit2 := Lib.iterAt_heap wr w.heap.size s pos (pos + (Utf8.decode s pos).2) hit
      have hwr2 := Lib.below_iterAt hwr (k := w.heap.size) (Nat.le_refl _) s (pos + (Utf8.decode s pos).2)
      have hO2 : ORow (wr.iterAt w.heap.size s (pos + (Utf8.decode s pos).2)) (w.heap.size + 1) _ don := ownsRow_iterAt hO (k := w.heap.size) (by omega) s (pos + (Utf8.decode s pos).2)
      have hnx : ∀ ty, (Instr.next (.pointer (some ⟨w.heap.size, 0, none⟩)) true ty).run Tryz.prog wr = _ := fun ty => Lib.run_next_any_at wr w.heap.size s pos ty hit hp
      have hlt : w.heap.size < wr.heap.size := (Array.getElem?_eq_some_iff.1 hit).1
      have hlt2 : w.heap.size < (wr.iterAt w.heap.size s (pos + (Utf8.decode s pos).2)).heap.size := by rw [Lib.iterAt_size]; exact hlt
      obtain ⟨r, hr⟩ : ∃ r, (Utf8.decode s pos).1 = r := ⟨_, rfl⟩
      rw [hr] at hnx hD hrg
      obtain ⟨k, hk⟩ : ∃ k, pos + (Utf8.decode s pos).2 = k := ⟨_, rfl⟩
      rw [hk] at hnx hit2 hwr2 hO2 hD hlt2
      have hk1 : pos < k := by omega
      generalize wr.iterAt w.heap.size s k = W1 at *
      have HD2 := Lib.hid (show (don ++ [(r : Int)]) ++ ptsGo fuel (s.data.toList.drop k) = L by rw [List.append_assoc]; exact hD)
      have HO := Lib.hid (hO2.below ((Below.refl W1.heap.size W1).alloc (Nat.le_refl _) (.cells #[.int .i64 (r : Int)] 3)) (Nat.le_refl _))
      have HIT := Lib.hid hit2
      clear hit hit2 hO hO2 HD hD hstep hdr hwd hr hk hwr
      go_wp2_with (at_builtin; refine wpList_app rfl _ _ rfl (w.heap.size + 1) _ don [(r : Int)] rfl HO.out _ 1 _ rfl (irow1 _ _ _) (by intro h; cases h) (by omega) (by simp; omega) ?_)
      intro v' w5 hO5 hb5
      have hw5 : Below w.heap.size w w5 := (hwr2.alloc hwr2.size (.cells #[.int .i64 (r : Int)] 3)).trans (hb5.mono (by omega))
      have hit5 : w5.heap[w.heap.size]? = some (.stringIter s k) := by
        rw [hb5.block w.heap.size (by omega), Below.heap_alloc _ _ _ hlt2]
        exact HIT.out
      go_wp2_with fail
      go_roundg (fuel + 1)
      case measure => omega
      case rel => exact ⟨k, fuel, don ++ [(r : Int)], rfl, hit5, HD2, hO5, by omega, hw5⟩
    · have hnx : ∀ ty, (Instr.next (.pointer (some ⟨w.heap.size, 0, none⟩)) true ty).run Tryz.prog wr = _ := fun ty => Lib.run_next_end_at wr w.heap.size s pos ty hit hp
      have hD := HD.out
      rw [List.drop_eq_nil_of_le (by have hz : s.data.toList.length = s.size := by simp
                                     omega), ptsGo_nil, List.append_nil] at hD
      have HO := Lib.hid (hO.mono (base' := w.heap.size) (by omega))
      have HDD := Lib.hid hD
      clear hD HD hO hit
      go_wp2_with fail
      go_returns
      exact ⟨_, rfl, HDD.out ▸ HO.out, hwr⟩
end Go.Proofs.YtfagfkfcokmclaaGreatDoor
