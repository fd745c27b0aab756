/- Spanned: what it returns, for every argument. -/
import Derived.Test.YtpnlhkpibgngbaaTyC
set_option linter.unusedSimpArgs false
set_option linter.unusedVariables false
namespace Go.Proofs.Ytpnlhkpibgngbaa
open Go.RowKit

def spannedF (t : T3) (l m : Int) : T3 :=
  if m == 0 || t.i == 0 then ⟨0, ⟨#[]⟩, 3⟩ else if decide (1 ≤ l) && m == 1 then ⟨t.i, t.n, 0⟩ else if decide (1 ≤ l) then ⟨t.i, t.n, 2⟩ else if m == 1 then ⟨t.i, t.n, 1⟩ else ⟨t.i, t.n, 3⟩

set_option maxHeartbeats 400000 in
theorem spanned_any (i : Int) (s : ByteArray) (o l m : Int) (w : World) :
    Calls Try.prog 41 #[.agg #[.int .i64 i, .string s, .int .i64 o], .int .i64 l, .int .i64 m] w fun e w' =>
      e = .returned (.agg #[.int .i64 (spannedF ⟨i, s, o⟩ l m).i, .string (spannedF ⟨i, s, o⟩ l m).n, .int .i64 (spannedF ⟨i, s, o⟩ l m).o]) ∧ Below w.heap.size w w' := by
  cases e1 : (m == 0) <;> cases e2 : (i == 0) <;> cases e3 : decide (1 ≤ l) <;> cases e4 : (m == 1)
  all_goals go_enter Try.func41, Try.ntmps41
  all_goals go_wp2_with (go_at_call 38; refine (none_any _).mono ?_; rintro e w1 ⟨rfl, hb⟩; obtain ⟨hc, hf⟩ := bcell hb)
  all_goals go_light
  all_goals first
    | (go_returns; refine ⟨?_, by go_grown⟩; simp [spannedF, e1, e2, e3, e4]; done)
    | (refine bodyPost_ret (v := .agg #[.int .i64 0, .string ⟨#[]⟩, .int .i64 3]) (by simp [results, Try.results41, go_sem, hc]) rfl ⟨?_, ?_⟩
       · simp [spannedF, e1, e2, e3, e4]; done
       · refine (((?_ : Below _ w w1).setCell (by simp) _).setCell (by simp) _).setCell (by simp) _
         refine Below.trans ?_ (hb.mono (by simp; omega))
         go_grown)

def eitherS (a : T3 × Int × Int) (x : T3) : T3 × Int × Int := (leastF a.1 x, min a.2.1 (spanL x.i x.o), max a.2.2 (spanM x.i x.o))
def joinS (a : T3 × Int × Int) (x : T3) : T3 × Int × Int := (leastF a.1 x, min (a.2.1 + spanL x.i x.o) 2, min (a.2.2 + spanM x.i x.o) 2)

end Go.Proofs.Ytpnlhkpibgngbaa
