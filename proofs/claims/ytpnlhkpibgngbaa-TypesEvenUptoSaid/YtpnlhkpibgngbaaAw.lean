/- Awake returns true. -/
import Derived.Test.YtpnlhkpibgngbaaTyF
import Derived.Test.YtpnlhkpibgngbaaTyG
namespace Go.Proofs.Ytpnlhkpibgngbaa
open Go.RowKit

def tyL : List T3 → List Value
  | [] => []
  | x :: r => .int .i64 x.i :: .string x.n :: .int .i64 x.o :: tyL r
theorem tyL_get : ∀ (xs : List T3) (j : Nat) (x : T3), xs[j]? = some x → (tyL xs)[j * 3]? = some (.int .i64 x.i) ∧ (tyL xs)[j * 3 + 1]? = some (.string x.n) ∧ (tyL xs)[j * 3 + 2]? = some (.int .i64 x.o)
  | [], j, x, h => by simp at h
  | y :: r, 0, x, h => by simp at h; subst h; simp [tyL]
  | y :: r, j + 1, x, h => by
    have := tyL_get r j x (by simpa using h)
    have e1 : (j + 1) * 3 = j * 3 + 1 + 1 + 1 := by omega
    have e2 : (j + 1) * 3 + 1 = (j * 3 + 1) + 1 + 1 + 1 := by omega
    have e3 : (j + 1) * 3 + 2 = (j * 3 + 2) + 1 + 1 + 1 := by omega
    rw [e2, e3, e1]
    simpa [tyL] using this
theorem TyRow.new (w : World) (xs : List T3) (t : TypeId) {cs : Array Value} (hcs : cs = (tyL xs).toArray) : TyRow (w.alloc (.cells cs t)) (some ⟨w.heap.size, 0, none⟩) xs := by
  subst hcs
  refine .inr ⟨_, rfl, by simp, fun j x hx => ?_⟩
  obtain ⟨h1, h2, h3⟩ := tyL_get xs j x hx
  have hb := Blk.new w (tyL xs).toArray t
  exact ⟨by rw [hb.cell]; simpa using h1, by rw [hb.cell]; simpa using h2, by rw [hb.cell]; simpa using h3⟩

theorem k1 : subF ⟨1, ⟨#[]⟩, 0⟩ ⟨2, ⟨#[]⟩, 1⟩ = true := by decide +kernel
theorem k2 : subF ⟨2, ⟨#[]⟩, 0⟩ ⟨1, ⟨#[]⟩, 0⟩ = false := by decide +kernel
theorem k3 : joinF [⟨1, ⟨#[]⟩, 0⟩, ⟨1, ⟨#[]⟩, 0⟩] = ⟨1, ⟨#[]⟩, 2⟩ := by decide +kernel
theorem k4 : eitherF [⟨1, ⟨#[]⟩, 0⟩, ⟨3, ⟨#[]⟩, 1⟩] = ⟨6, ⟨#[]⟩, 1⟩ := by decide +kernel

set_option maxRecDepth 100000 in
set_option maxHeartbeats 1000000 in
theorem awake_any (w : World) : Calls Try.prog 9 #[] w fun e w' => e = .returned (.bool true) ∧ Below w.heap.size w w' := by
  have C1 := Lib.hid (fun w => sub_any 1 ⟨#[]⟩ 0 2 ⟨#[]⟩ 1 w)
  have C2 := Lib.hid (fun w => sub_any 2 ⟨#[]⟩ 0 1 ⟨#[]⟩ 0 w)
  rw [k1] at C1
  rw [k2] at C2
  go_enter Try.func9, Try.ntmps9
  go_wp2_with fail
  refine (integer_any _ _).mono ?_
  rintro e w1 ⟨rfl, b1⟩
  go_wp2_with fail
  refine (C1.out _).mono ?_
  rintro e w2 ⟨rfl, b2⟩
  go_wp2_with fail
  refine (integer_any _ _).mono ?_
  rintro e w3 ⟨rfl, b3⟩
  go_wp2_with fail
  refine (C2.out _).mono ?_
  rintro e w4 ⟨rfl, b4⟩
  go_wp2_with fail
  refine (integer_any _ _).mono ?_
  rintro e w5 ⟨rfl, b5⟩
  go_wp2_with fail
  refine (integer_any _ _).mono ?_
  rintro e w6 ⟨rfl, b6⟩
  go_wp2_with fail
  refine (join_any _ 2 [⟨1, ⟨#[]⟩, 0⟩, ⟨1, ⟨#[]⟩, 0⟩] _ (TyRow.new _ _ _ rfl) rfl (by omega)).mono ?_
  rw [k3]
  rintro e w7 ⟨rfl, b7⟩
  go_wp2_with fail
  refine (integer_any _ _).mono ?_
  rintro e w8 ⟨rfl, b8⟩
  go_wp2_with fail
  refine (integer_any _ _).mono ?_
  rintro e w9 ⟨rfl, b9⟩
  go_wp2_with fail
  refine (either_any _ 2 [⟨1, ⟨#[]⟩, 0⟩, ⟨3, ⟨#[]⟩, 1⟩] _ (TyRow.new _ _ _ rfl) rfl (by omega)).mono ?_
  rw [k4]
  rintro e w10 ⟨rfl, b10⟩
  go_wp2_with fail
  go_light
  go_ret
  have c6 : Below w.heap.size w w6 := b1.trans ((b2.mono b1.size).trans ((b3.mono (by have := b1.size; have := b2.size; omega)).trans ((b4.mono (by have := b1.size; have := b2.size; have := b3.size; omega)).trans ((b5.mono (by have := b1.size; have := b2.size; have := b3.size; have := b4.size; omega)).trans (b6.mono (by have := b1.size; have := b2.size; have := b3.size; have := b4.size; have := b5.size; omega))))))
  have c7 := (c6.alloc c6.size _).trans (b7.mono (by have := c6.size; simp; omega))
  have c8 := c7.trans (b8.mono c7.size)
  have c9 := c8.trans (b9.mono c8.size)
  have c10 := (c9.alloc c9.size _).trans (b10.mono (by have := c9.size; simp; omega))
  exact ⟨rfl, c10⟩
end Go.Proofs.Ytpnlhkpibgngbaa
