/- The reference's Right: what it returns, for every type whose name has at most 2^47/8 bytes. -/
import Derived.Test.YtpnlhkpibgngbaaVa
namespace Go.Proofs.Ytpnlhkpibgngbaa
open Go.RowKit

def RightOf (i : Int) (s : ByteArray) (o : Int) : Prop := 0 ≤ i ∧ i ≤ 13 ∧ 0 ≤ o ∧ o ≤ 3 ∧ (s.toList.isEmpty = true ∨ i = 8 ∨ i = 9)
def RightPost (i : Int) (s : ByteArray) (o : Int) (w : World) (e : Ending) (w' : World) : Prop :=
  ∃ b : Bool, e = .returned (.bool b) ∧ Below w.heap.size w w' ∧ (b = true → RightOf i s o)

set_option maxRecDepth 100000 in
set_option maxHeartbeats 1000000 in
theorem rright_any (i : Int) (s : ByteArray) (o : Int) (w : World) (hm : s.size * 8 ≤ 140737488351232) :
    Calls Try.prog 10 #[.agg #[.int .i64 i, .string s, .int .i64 o]] w (RightPost i s o w) := by
  by_cases hr : 0 ≤ i ∧ i ≤ 13 ∧ 0 ≤ o ∧ o ≤ 3
  · obtain ⟨h1, h2, h3, h4⟩ := hr
    cases e1 : s.toList.isEmpty <;> cases e2 : (i == 8) <;> cases e3 : (i == 9)
    all_goals go_enter Try.func10, Try.ntmps10
    all_goals go_wp2_with (go_at_call 37; refine (name_any _ _ hm).mono ?_; rintro e w2 ⟨b, rfl, hb⟩)
    all_goals go_light
    all_goals go_ret
    all_goals simp only [beq_iff_eq, beq_eq_false_iff_ne] at e2 e3
    all_goals first
      | exact ⟨_, rfl, ((Below.refl _ _).alloc (Nat.le_refl _) _).trans (hb.mono (Nat.le_of_lt (by rw [World.size_alloc]; exact Nat.lt_succ_self _))), fun h => ⟨h1, h2, h3, h4, .inr (.inl e2)⟩⟩
      | exact ⟨_, rfl, ((Below.refl _ _).alloc (Nat.le_refl _) _).trans (hb.mono (Nat.le_of_lt (by rw [World.size_alloc]; exact Nat.lt_succ_self _))), fun h => ⟨h1, h2, h3, h4, .inr (.inr e3)⟩⟩
      | exact ⟨_, rfl, (Below.refl _ _).alloc (Nat.le_refl _) _, fun h => ⟨h1, h2, h3, h4, .inl e1⟩⟩
      | exact ⟨_, rfl, (Below.refl _ _).alloc (Nat.le_refl _) _, fun h => Bool.noConfusion h⟩
  · by_cases h1 : 0 ≤ i
    · by_cases h2 : i ≤ 13
      · by_cases h3 : 0 ≤ o
        · have h4 : 3 < o := by omega
          clear hr
          go_enter Try.func10, Try.ntmps10
          go_wp2
          go_ret
          exact ⟨false, rfl, by go_grown, fun h => by simp at h⟩
        · have h4 : o < 0 := by omega
          clear hr
          go_enter Try.func10, Try.ntmps10
          go_wp2
          go_ret
          exact ⟨false, rfl, by go_grown, fun h => by simp at h⟩
      · have h4 : 13 < i := by omega
        clear hr
        go_enter Try.func10, Try.ntmps10
        go_wp2
        go_ret
        exact ⟨false, rfl, by go_grown, fun h => by simp at h⟩
    · have h4 : i < 0 := by omega
      clear hr
      go_enter Try.func10, Try.ntmps10
      go_wp2
      go_ret
      exact ⟨false, rfl, by go_grown, fun h => by simp at h⟩
end Go.Proofs.Ytpnlhkpibgngbaa
