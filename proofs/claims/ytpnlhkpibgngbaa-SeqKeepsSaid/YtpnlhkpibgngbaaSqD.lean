/- Layer 18's awake returns true. -/
import Derived.Test.YtpnlhkpibgngbaaSqC
set_option linter.unusedSimpArgs false
namespace Go.Proofs.Ytpnlhkpibgngbaa
open Go.RowKit Go.Sort

theorem ORow.lit {w : World} {base : Nat} {v : Value} {xs : List Int} (h : ORow w base v xs) (hl : xs.length ≤ 1000000) : ∃ a cap, v = .slice a xs.length cap ∧ IRow w a xs.length xs := by
  obtain ⟨a, cap, h1, h2, -⟩ := h.irow (by omega)
  exact ⟨a, cap, h1, h2⟩
theorem irow3 (w : World) (x y z : Int) (t : TypeId) : IRow (w.alloc (.cells #[.int .i64 x, .int .i64 y, .int .i64 z] t)) (some ⟨w.heap.size, 0, none⟩) 3 [x, y, z] := IRow.new w [x, y, z] t (by simp)
theorem irow2 (w : World) (x y : Int) (t : TypeId) : IRow (w.alloc (.cells #[.int .i64 x, .int .i64 y] t)) (some ⟨w.heap.size, 0, none⟩) 2 [x, y] := IRow.new w [x, y] t (by simp)
theorem irow1 (w : World) (x : Int) (t : TypeId) : IRow (w.alloc (.cells #[.int .i64 x] t)) (some ⟨w.heap.size, 0, none⟩) 1 [x] := IRow.new w [x] t (by simp)

theorem sawake_any (w : World) : Calls Try.prog 17 #[] w fun e w' => e = .returned (.bool true) ∧ Below w.heap.size w w' := by
  go_enter Try.func17, Try.ntmps17
  go_wp2_with fail
  refine (seqrem_any _ _ _ _ _ _ (irow3 _ _ _ _ _) (by omega)).mono ?_
  rintro e w1 ⟨v, rfl, hO, hb⟩
  have k1 : Below w.heap.size w w1 := ((Below.refl _ _).alloc (Nat.le_refl _) _).trans (hb.mono (by simp))
  rw [show remF [1, 2, 3] 2 = [1, 3] from by decide] at hO
  obtain ⟨a, cap, rfl, hI⟩ : ∃ a cap, v = .slice a 2 cap ∧ IRow w1 a 2 [1, 3] := hO.lit (by decide)
  have I := Lib.hid (fun b n c ys w' hb => ints_any a b 2 n cap c [1, 3] ys w' (hI.below hb (Nat.le_refl _)))
  clear hI hO hb
  go_wp2_with fail
  refine (I.out _ _ _ [1, 3] _ ((Below.refl _ _).alloc (Nat.le_refl _) _) (irow2 _ _ _ _)).mono ?_
  rintro e w2 ⟨rfl, hb⟩
  have k2 : Below w.heap.size w w2 := (k1.alloc k1.size _).trans (hb.mono (by have := k1.size; simp; omega))
  clear hb I k1
  rw [show (([1, 3] : List Int) == [1, 3]) = true from by decide]
  go_wp2_with fail
  have P1 : Hid (PRow ((w2.alloc (Obj.cells #[Value.int IntKind.i64 1, Value.int IntKind.i64 2] 3)).alloc (Obj.cells #[Value.int IntKind.i64 5] 3)) ((w2.alloc (Obj.cells #[Value.int IntKind.i64 1, Value.int IntKind.i64 2] 3)).alloc (Obj.cells #[Value.int IntKind.i64 5] 3)).heap.size (some ⟨w2.heap.size + 1, 0, none⟩) [5]) := fun _ =>
    ⟨w2.heap.size + 1, #[.int .i64 5], rfl, by simp, by have := Blk.new (w2.alloc (Obj.cells #[Value.int IntKind.i64 1, Value.int IntKind.i64 2] 3)) #[.int .i64 5] 3; simpa [Blk] using this, rfl⟩
  refine (seqins_any _ 2 _ 9 _ 1 _ [1, 2] [5] _ ((irow2 w2 1 2 3).below ((Below.refl _ _).alloc (Nat.le_refl _) _) (Nat.le_refl _)) (by omega) rfl (by omega) P1.out).mono ?_
  rintro e w3 ⟨v, rfl, hO, hb⟩
  have k3 : Below w.heap.size w w3 := ((k2.alloc k2.size _).alloc (by have := k2.size; simp; omega) _).trans (hb.mono (by have := k2.size; simp; omega))
  rw [show putF [1, 2] [5] (plF 2 9) = [1, 2, 5] from by decide] at hO
  obtain ⟨a, cap, rfl, hI⟩ : ∃ a cap, v = .slice a 3 cap ∧ IRow w3 a 3 [1, 2, 5] := hO.lit (by decide)
  have I := Lib.hid (fun b n c ys w' hb => ints_any a b 3 n cap c [1, 2, 5] ys w' (hI.below hb (Nat.le_refl _)))
  clear hI hO hb P1 k2
  go_wp2_with fail
  refine (I.out _ _ _ [1, 2, 5] _ ((Below.refl _ _).alloc (Nat.le_refl _) _) (irow3 _ _ _ _ _)).mono ?_
  rintro e w4 ⟨rfl, hb⟩
  have k4 : Below w.heap.size w w4 := (k3.alloc k3.size _).trans (hb.mono (by have := k3.size; simp; omega))
  clear hb I k3
  rw [show (([1, 2, 5] : List Int) == [1, 2, 5]) = true from by decide]
  go_wp2_with fail
  refine (seqpart_any _ 3 _ 0 3 [1, 2, 3] _ (irow3 _ _ _ _ _) (by omega) (by omega) (by omega) (by omega)).mono ?_
  rintro e w5 ⟨v, rfl, hO, hb⟩
  have k5 : Below w.heap.size w w5 := (k4.alloc k4.size _).trans (hb.mono (by have := k4.size; simp; omega))
  rw [show partF [1, 2, 3] 0 3 = [1, 2] from by decide] at hO
  obtain ⟨a, cap, rfl, hI⟩ : ∃ a cap, v = .slice a 2 cap ∧ IRow w5 a 2 [1, 2] := hO.lit (by decide)
  have I := Lib.hid (fun b n c ys w' hb => ints_any a b 2 n cap c [1, 2] ys w' (hI.below hb (Nat.le_refl _)))
  clear hI hO hb k4
  go_wp2_with fail
  refine (I.out _ _ _ [1, 2] _ ((Below.refl _ _).alloc (Nat.le_refl _) _) (irow2 _ _ _ _)).mono ?_
  rintro e w6 ⟨rfl, hb⟩
  have k6 : Below w.heap.size w w6 := (k5.alloc k5.size _).trans (hb.mono (by have := k5.size; simp; omega))
  clear hb I k5
  rw [show (([1, 2] : List Int) == [1, 2]) = true from by decide]
  go_wp2_with fail
  go_light
  go_ret
  exact ⟨rfl, k6⟩
end Go.Proofs.Ytpnlhkpibgngbaa
