/- Lies: what it returns, for every argument. -/
import Derived.Test.YtpnlhkpibgngbaaTyA
import Derived.Lib.Hide
import Derived.Test.YtpnlhkpibgngbaaBox
import Derived.Deep.Light
namespace Go.Proofs.Ytpnlhkpibgngbaa
open Go.RowKit

theorem emp0 : (⟨#[]⟩ : ByteArray).toList = [] := by decide +kernel
def hit (k : Int) (s : ByteArray) (i : Int) (t : ByteArray) : Bool := k == i && (t.toList.isEmpty || s.toList == t.toList)
def rank (k : Int) (s : ByteArray) : Nat := (if s.toList.isEmpty then 0 else 1) + (if k = 1 then 3 else if 2 ≤ k ∧ k ≤ 5 then 2 else if 7 ≤ k ∧ k ≤ 11 then 2 else if k = 13 then 0 else 1)
def liesR : Nat → Int → ByteArray → Int → ByteArray → Bool
  | 0, _, _, _, _ => false
  | m + 1, k, s, i, t => hit k s i t || (k != 13 && liesR m (upK k s) ⟨#[]⟩ i t)
def liesF (k : Int) (s : ByteArray) (i : Int) (t : ByteArray) : Bool := k == 0 || liesR 6 k s i t

theorem rank_up (k : Int) (s : ByteArray) (h : (k == 13) = false) : rank (upK k s) ⟨#[]⟩ < rank k s := by
  have h : k ≠ 13 := by simpa using h
  have h0 : (⟨#[]⟩ : ByteArray).toList.isEmpty = true := by rw [emp0]; rfl
  unfold rank upK
  rw [h0]
  cases e : s.toList.isEmpty
  · simp
  · simp; repeat' (split <;> try omega)
theorem rank_le (k : Int) (s : ByteArray) : rank k s ≤ 4 := by
  unfold rank; repeat' (split <;> try omega)
theorem liesR_step {m : Nat} {k : Int} {s : ByteArray} {i : Int} {t : ByteArray} (hm : rank k s < m) : liesR m k s i t = (hit k s i t || (k != 13 && liesR (m - 1) (upK k s) ⟨#[]⟩ i t)) := by
  cases m with
  | zero => omega
  | succ m => simp [liesR]

set_option maxHeartbeats 400000 in
theorem lies_any (k : Int) (s : ByteArray) (i : Int) (t : ByteArray) (o : Int) (w : World) :
    Calls Try.prog 45 #[.int .i64 k, .string s, .agg #[.int .i64 i, .string t, .int .i64 o]] w fun e w' => e = .returned (.bool (liesF k s i t)) ∧ Below w.heap.size w w' := by
  by_cases h0 : k = 0
  · have h0' : (k == 0) = true := by simp [h0]
    go_enter Try.func45, Try.ntmps45
    go_wp2
    go_ret
    refine ⟨by simp [liesF, h0], by go_grown⟩
  · have h0' : (k == 0) = false := by simp [h0]
    have H0 : Hid (liesF k s i t = liesR 6 k s i t) := by simp [liesF, h0', Hid]
    go_enter Try.func45, Try.ntmps45
    go_wp2
    go_loop [0, 1] (fun a b => ∃ (m : Nat) (k1 : Int) (s1 : ByteArray), a = .int .i64 k1 ∧ b = .string s1 ∧ rank k1 s1 < m ∧ Hid (liesF k s i t = liesR m k1 s1 i t)) (fun a b => match b with | .string s1 => rank (intOf a) s1 | _ => 0)
    case atStart => exact ⟨6, k, s, rfl, rfl, by have := rank_le k s; omega, H0⟩
    case round =>
      obtain ⟨m, k1, s1, rfl, rfl, hm, hl⟩ := hrel
      clear H0
      have hs := liesR_step (i := i) (t := t) hm
      have hr := rank_up k1 s1
      have HS : Hid (liesF k s i t = (hit k1 s1 i t || (k1 != 13 && liesR (m - 1) (upK k1 s1) ⟨#[]⟩ i t))) := by unfold Hid; rw [hl.out, hs]
      have HR := Lib.hid hr
      clear hs hr hl
      cases e1 : (k1 == i) <;> cases e2 : t.toList.isEmpty <;> cases e3 : (s1.toList == t.toList) <;> cases e4 : (k1 == 13)
      all_goals go_wp2_with (go_at_call 57; refine (up_any _ _ _).mono ?_; rintro e w' ⟨rfl, rfl⟩)
      all_goals go_light
      all_goals first
        | (go_ret; refine ⟨?_, by go_grown⟩; rw [HS.out]; simp [hit, bne, e1, e2, e3, e4]; done)
        | (go_round
           case rel =>
             refine ⟨m - 1, _, _, rfl, rfl, ?_, ?_⟩
             · have := HR.out e4
               omega
             · unfold Hid; rw [HS.out]; simp [hit, bne, e1, e2, e3, e4]; done
           case measure => exact HR.out e4)
end Go.Proofs.Ytpnlhkpibgngbaa
