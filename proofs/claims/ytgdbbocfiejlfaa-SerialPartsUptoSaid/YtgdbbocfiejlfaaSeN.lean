/- serial.Tree. -/
import Derived.Test.YtgdbbocfiejlfaaSeM
set_option linter.unusedSimpArgs false
set_option linter.unusedVariables false
set_option linter.constructorNameAsVariable false
namespace Go.Proofs.Ytgdbbocfiejlfaa
open Go.RowKit

theorem tree_all : ∀ h, TreeC h
  | 0 => fun t => nomatch t
  | h + 1 => tree_step h (tree_all h)
/-- What Tree answers. -/
def textO (h : Nat) (ts : List (Tr h)) : List UInt8 := if oks h ts = true then outs h ts else []
def errO (h : Nat) (ts : List (Tr h)) : Int := if oks h ts = true then 0 else 57
set_option maxRecDepth 100000 in
set_option maxHeartbeats 1600000 in
theorem done_any (B b : Nat) (ok : Bool) (bs : List UInt8) (w : World) (h : WB B b ok bs w) :
    Calls Try.prog 9 #[.pointer (some ⟨b, 0, none⟩)] w fun e w' => e = .returned (.tuple #[.string ⟨(if ok = true then bs else []).toArray⟩, .int .i64 (if ok = true then 0 else 57)]) ∧ Below B w w' := by
  obtain ⟨p, v, hB, -, -⟩ := h.ex
  have c2 : w.cell? ⟨b, 2, none⟩ = some (.bool ok) := hB.cell 2
  have kb := hB.lt
  have CS := Lib.hid (string_any B b ok bs w h)
  have hnot := not_run
  clear hB h
  cases ok
  · go_enter Try.func9, Try.ntmps9
    go_wp2_with fail
    go_ret2
    exact ⟨rfl, Below.refl _ _⟩
  · go_enter Try.func9, Try.ntmps9
    go_wp2_with fail
    with_reducible refine CS.out.mono ?_
    rintro e w1 ⟨rfl, hb⟩
    go_wp2_with fail
    go_ret2
    exact ⟨rfl, hb⟩
set_option maxRecDepth 100000 in
set_option maxHeartbeats 1600000 in
theorem stree_any (h : Nat) (ts : List (Tr h)) (a : Option Addr) (c : Nat) (w : World) (m : Int) (hT : KRow All (TLies All h w) w a ts) (hl : ts.length ≤ 9223372036854775807) (hst : ∀ t ∈ ts, StrOk 1048576 h t) (hlen : (outs h ts).length ≤ 140737488355328) (hm : w.cell? ⟨0, 0, none⟩ = some (.int .i64 m)) :
    Calls Try.prog 6 #[.slice a ts.length c] w fun e w' => e = .returned (.tuple #[.string ⟨(textO h ts).toArray⟩, .int .i64 (errO h ts)]) ∧ Below w.heap.size w w' := by
  have h0 : 0 < w.heap.size := by
    rcases Nat.eq_zero_or_pos w.heap.size with h9 | h9
    · simp [World.cell?, Array.getElem?_eq_none (show w.heap.size ≤ 0 by omega)] at hm
    · exact h9
  have hbx : Below w.heap.size w (w.alloc (.cells #[.pointer none, .slice none 0 0, .bool true] 42)) := (Below.refl _ _).alloc (Nat.le_refl _) _
  have hW : WB w.heap.size w.heap.size true [] (w.alloc (.cells #[.pointer none, .slice none 0 0, .bool true] 42)) := ⟨Nat.le_refl _, _, _, Blk.new _ _ _, .inl rfl, World.ownsRow_nil _ _ _ _⟩
  have hTB : KRow (fun i => i < w.heap.size) (TLies (fun i => i < w.heap.size) h (w.alloc (.cells #[.pointer none, .slice none 0 0, .bool true] 42))) (w.alloc (.cells #[.pointer none, .slice none 0 0, .bool true] 42)) a ts :=
    KRow.on hT (kept_of hbx) (fun b _ hb => hb) fun x cs hx => hx.go (kept_of hbx) fun b _ hb => hb
  have CT := Lib.hid (trees_any h (tree_all h) ts a c w.heap.size w.heap.size true [] _ m hW hTB hl hst (by simpa using hlen) hbx.size h0 ((hbx.cell (p := ⟨0, 0, none⟩) h0).trans hm))
  have CD : Hid (∀ w', WB w.heap.size w.heap.size (true && oks h ts) ([] ++ outs h ts) w' → Calls Try.prog 9 #[.pointer (some ⟨w.heap.size, 0, none⟩)] w' fun e w'' => e = .returned (.tuple #[.string ⟨(textO h ts).toArray⟩, .int .i64 (errO h ts)]) ∧ Below w.heap.size w' w'') := Lib.hid (fun w' hw => done_any w.heap.size w.heap.size _ _ w' hw)
  clear hT hTB hW hst hm
  go_enter Try.func6, Try.ntmps6
  go_wp2_with fail
  generalize w.alloc (.cells #[.pointer none, .slice none 0 0, .bool true] 42) = W at *
  with_reducible refine CT.out.mono ?_
  rintro e w1 ⟨rfl, hw1, hk1⟩
  go_wp2_with fail
  with_reducible refine (CD.out _ hw1).mono ?_
  rintro e w2 ⟨rfl, hb2⟩
  go_wp2_with fail
  go_ret2
  exact ⟨rfl, hbx.trans (hk1.bl.trans hb2)⟩
end Go.Proofs.Ytgdbbocfiejlfaa
