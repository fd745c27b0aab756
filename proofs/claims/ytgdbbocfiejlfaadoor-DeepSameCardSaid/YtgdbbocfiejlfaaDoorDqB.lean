/- The law's awake: its walk. -/
import Derived.Test.YtgdbbocfiejlfaaDoorDqA
import Derived.Test.YtgdbbocfiejlfaaDoorDpW
import Derived.Test.YtgdbbocfiejlfaaDoorDpZ2
set_option linter.unusedSimpArgs false
set_option linter.unusedVariables false
set_option linter.constructorNameAsVariable false
namespace Go.Proofs.YtgdbbocfiejlfaaDoor
open Go.RowKit

theorem empty_lit : ByteArray.empty = ⟨#[]⟩ := rfl
set_option maxRecDepth 100000 in
set_option maxHeartbeats 4000000 in
theorem awake_any (w : World) : Calls Tryd.prog 5 #[] w fun e w' => e = .returned (.bool true) ∧ Below w.heap.size w w' := by
  have CM := Lib.hid (fun q w hB => merge_three q w hB)
  have CJ := Lib.hid (fun q w hB => join_two q w hB)
  simp only [empty_lit] at CM
  go_enter Tryd.func5, Tryd.ntmps5
  go_wp2_with fail
  have hbA : Below w.heap.size w ((w.alloc (.cells #[.string ⟨#[120]⟩, .string ⟨#[49]⟩] 33)).alloc (.cells #[.string ⟨#[121]⟩, .string ⟨#[50]⟩] 33)) := ((Below.refl _ _).alloc (Nat.le_refl _) _).alloc (by simp) _
  have hzA : ((w.alloc (.cells #[.string ⟨#[120]⟩, .string ⟨#[49]⟩] 33)).alloc (.cells #[.string ⟨#[121]⟩, .string ⟨#[50]⟩] 33)).heap.size = w.heap.size + 1 + 1 := by simp
  have B1 : Blk ((w.alloc (.cells #[.string ⟨#[120]⟩, .string ⟨#[49]⟩] 33)).alloc (.cells #[.string ⟨#[121]⟩, .string ⟨#[50]⟩] 33)) w.heap.size #[.string ⟨#[120]⟩, .string ⟨#[49]⟩] 33 := (Blk.new _ _ _).alloc _
  have B2 : Blk ((w.alloc (.cells #[.string ⟨#[120]⟩, .string ⟨#[49]⟩] 33)).alloc (.cells #[.string ⟨#[121]⟩, .string ⟨#[50]⟩] 33)) (w.heap.size + 1) #[.string ⟨#[121]⟩, .string ⟨#[50]⟩] 33 := by
    have := Blk.new (w.alloc (.cells #[.string ⟨#[120]⟩, .string ⟨#[49]⟩] 33)) #[.string ⟨#[121]⟩, .string ⟨#[50]⟩] 33
    simpa using this
  generalize (w.alloc (.cells #[.string ⟨#[120]⟩, .string ⟨#[49]⟩] 33)).alloc (.cells #[.string ⟨#[121]⟩, .string ⟨#[50]⟩] 33) = WA at *
  have BM := Blk.new WA #[.int .i64 4, .string ⟨#[]⟩, .string ⟨#[120]⟩, .slice none 0 0, .slice none 0 0, .int .i64 4, .string ⟨#[]⟩, .string ⟨#[]⟩, .slice none 0 0, .slice none 0 0, .int .i64 4, .string ⟨#[]⟩, .string ⟨#[121]⟩, .slice none 0 0, .slice none 0 0] 26
  have hbM : Below WA.heap.size WA (WA.alloc (.cells #[.int .i64 4, .string ⟨#[]⟩, .string ⟨#[120]⟩, .slice none 0 0, .slice none 0 0, .int .i64 4, .string ⟨#[]⟩, .string ⟨#[]⟩, .slice none 0 0, .slice none 0 0, .int .i64 4, .string ⟨#[]⟩, .string ⟨#[121]⟩, .slice none 0 0, .slice none 0 0] 26)) := (Below.refl _ _).alloc (Nat.le_refl _) _
  rw [hzA] at BM
  have hzM : (WA.alloc (.cells #[.int .i64 4, .string ⟨#[]⟩, .string ⟨#[120]⟩, .slice none 0 0, .slice none 0 0, .int .i64 4, .string ⟨#[]⟩, .string ⟨#[]⟩, .slice none 0 0, .slice none 0 0, .int .i64 4, .string ⟨#[]⟩, .string ⟨#[121]⟩, .slice none 0 0, .slice none 0 0] 26)).heap.size = WA.heap.size + 1 := by simp
  generalize WA.alloc (.cells #[.int .i64 4, .string ⟨#[]⟩, .string ⟨#[120]⟩, .slice none 0 0, .slice none 0 0, .int .i64 4, .string ⟨#[]⟩, .string ⟨#[]⟩, .slice none 0 0, .slice none 0 0, .int .i64 4, .string ⟨#[]⟩, .string ⟨#[121]⟩, .slice none 0 0, .slice none 0 0] 26) = WM at *
  with_reducible refine (CM.out _ _ BM).mono ?_
  rintro e w1 ⟨⟨v, rfl, hO⟩, hb1⟩
  obtain ⟨g, cap, cur, rfl, hg, hBG, hc1, hc2, hc3, hc4⟩ := hO.2.resolve_left (by rintro ⟨-, h⟩; cases h)
  have BG : Blk w1 g cur 26 := hBG
  have z2 : w1.cell? ⟨g, 2, none⟩ = some (.string ⟨#[120, 121]⟩) := by
    rw [BG.cell 2]
    have : (List.take ([tC ⟨#[120, 121]⟩].length * 5) cur.toList)[2]? = some (.string ⟨#[120, 121]⟩) := by rw [hc4]; rfl
    rw [List.getElem?_take] at this
    split at this
    · simpa using this
    · cases this
  have hw1 : Below w.heap.size w w1 := hbA.trans ((hbM.trans (hb1.mono hbM.size)).mono hbA.size)
  replace B1 := (B1.below hbM B1.lt).below hb1 (by have := B1.lt; omega)
  replace B2 := (B2.below hbM B2.lt).below hb1 (by have := B2.lt; omega)
  clear hO hBG hc1 hc2 hc3 hc4 hg BM hbA hzA hbM hzM hb1
  have kG := BG.lt
  have k1 := B1.lt
  have k2 := B2.lt
  clear BG
  have u0 := B1.cell 0
  have u1 := B1.cell 1
  have v0 := B2.cell 0
  have v1 := B2.cell 1
  simp at u0 u1 v0 v1
  go_wp2_with fail
  have hbP : Below w1.heap.size w1 ((w1.alloc (.cells #[.string ⟨#[120]⟩, .string ⟨#[49]⟩, .string ⟨#[121]⟩, .string ⟨#[50]⟩] 33)).alloc (.cells #[.string ⟨#[121]⟩, .string ⟨#[50]⟩, .string ⟨#[120]⟩, .string ⟨#[49]⟩] 33)) := ((Below.refl _ _).alloc (Nat.le_refl _) _).alloc (by simp) _
  have P1 : Blk ((w1.alloc (.cells #[.string ⟨#[120]⟩, .string ⟨#[49]⟩, .string ⟨#[121]⟩, .string ⟨#[50]⟩] 33)).alloc (.cells #[.string ⟨#[121]⟩, .string ⟨#[50]⟩, .string ⟨#[120]⟩, .string ⟨#[49]⟩] 33)) w1.heap.size #[.string ⟨#[120]⟩, .string ⟨#[49]⟩, .string ⟨#[121]⟩, .string ⟨#[50]⟩] 33 := (Blk.new _ _ _).alloc _
  have P2 : Blk ((w1.alloc (.cells #[.string ⟨#[120]⟩, .string ⟨#[49]⟩, .string ⟨#[121]⟩, .string ⟨#[50]⟩] 33)).alloc (.cells #[.string ⟨#[121]⟩, .string ⟨#[50]⟩, .string ⟨#[120]⟩, .string ⟨#[49]⟩] 33)) (w1.heap.size + 1) #[.string ⟨#[121]⟩, .string ⟨#[50]⟩, .string ⟨#[120]⟩, .string ⟨#[49]⟩] 33 := by
    have := Blk.new (w1.alloc (.cells #[.string ⟨#[120]⟩, .string ⟨#[49]⟩, .string ⟨#[121]⟩, .string ⟨#[50]⟩] 33)) #[.string ⟨#[121]⟩, .string ⟨#[50]⟩, .string ⟨#[120]⟩, .string ⟨#[49]⟩] 33
    simpa using this
  generalize (w1.alloc (.cells #[.string ⟨#[120]⟩, .string ⟨#[49]⟩, .string ⟨#[121]⟩, .string ⟨#[50]⟩] 33)).alloc (.cells #[.string ⟨#[121]⟩, .string ⟨#[50]⟩, .string ⟨#[120]⟩, .string ⟨#[49]⟩] 33) = WP at *
  have T1 := trees_any 1 _ _ _ _ WP (litA_lies WP ⟨#[97]⟩ _ _ _ _ _ P1) (litA_lies WP ⟨#[97]⟩ _ _ _ _ _ P2) (litA_small _ _ (by decide)) (litA_small _ _ (by decide))
  rw [lit_same] at T1
  with_reducible refine T1.mono ?_
  rintro e w2 ⟨rfl, hb2⟩
  have hb12 : Below w1.heap.size w1 w2 := hbP.trans (hb2.mono hbP.size)
  clear T1 P1 P2 hbP hb2
  go_wp2_with fail
  have T2 := trees_any 1 _ _ _ _ w2 (litA_bare w2 ⟨#[97]⟩) (litA_bare w2 ⟨#[98]⟩) (litA_small _ _ (by decide)) (litA_small _ _ (by decide))
  rw [lit_other] at T2
  with_reducible refine T2.mono ?_
  rintro e w3 ⟨rfl, hb3⟩
  have hb13 : Below w1.heap.size w1 w3 := hb12.trans (hb3.mono hb12.size)
  have hw3 : Below w.heap.size w w3 := hw1.trans (hb13.mono hw1.size)
  have z3 : w3.cell? ⟨g, 2, none⟩ = some (.string ⟨#[120, 121]⟩) := (hb13.cell (p := ⟨g, 2, none⟩) kG).trans z2
  have kG3 := Nat.lt_of_lt_of_le kG hb13.size
  clear T2 hb12 hb3 hb13 z2 kG
  go_wp2_with fail
  with_reducible refine (CJ.out _ _ (Blk.new _ _ _)).mono ?_
  rintro e w4 ⟨rfl, hb4⟩
  have hw4 : Below w.heap.size w w4 := (hw3.alloc hw3.size _).trans (hb4.mono (by have := hw3.size; simp; omega))
  clear hb4
  go_wp2_with fail
  go_returns
  exact ⟨rfl, hw4⟩
end Go.Proofs.YtgdbbocfiejlfaaDoor
