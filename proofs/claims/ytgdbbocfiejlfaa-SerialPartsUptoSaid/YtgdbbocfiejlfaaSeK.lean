/- Once; Replacer.Replace; Escape and value. -/
import Derived.Test.YtgdbbocfiejlfaaSeJ
set_option linter.unusedSimpArgs false
set_option linter.unusedVariables false
set_option linter.constructorNameAsVariable false
namespace Go.Proofs.Ytgdbbocfiejlfaa
open Go.RowKit

theorem not_run (x : Bool) (w : World) : (Op.unary .not (.bool x)).run Try.prog w = .ok (.bool (!x)) w := rfl
set_option maxRecDepth 100000 in
theorem load_any (rb : Nat) (d : Int) (w : World) (h0 : w.cell? ⟨rb, 0, none⟩ = some (.int .u32 d)) :
    Calls Try.prog 25 #[.pointer (some ⟨rb, 0, none⟩)] w fun e w' => e = .returned (.bool (d != 0)) ∧ w = w' := by
  have hl := run_call_load (P := Try.prog) Try.func32 (by kernel_rfl) (by kernel_rfl) (by kernel_rfl) .u32 (by kernel_rfl) h0
  go_enter Try.func25, Try.ntmps25
  go_wp2
  go_ret
  exact ⟨rfl, rfl⟩
set_option maxRecDepth 100000 in
set_option maxHeartbeats 3200000 in
theorem slow_any (qs : Tab) (Q : QOk qs) (rb o cap : Nat) (w : World) (hB : Blk w rb (RpC o (2 * qs.length) cap) 74) (hR : RowS w o (flatT qs.reverse)) (hor : o ≠ rb) :
    Calls Try.prog 26 #[.pointer (some ⟨rb, 0, none⟩), .func (.func 22) #[.pointer (some ⟨rb, 0, none⟩)] #[]] w fun e w' => e = .returned (.tuple #[]) ∧ ∃ b, Blk w' rb (RpD 1 0 b) 74 ∧ BSR qs (keysT qs) b w' ∧ Below rb w w' := by
  have hB1 : Blk (w.setCell ⟨rb, 1, none⟩ (.int .i32 1)) rb #[.int .u32 0, .int .i32 1, .int .u32 0, .nilIface, .slice (some ⟨o, 0, none⟩) (2 * qs.length) cap] 74 := hB.set 1 _
  have hR1 : RowS (w.setCell ⟨rb, 1, none⟩ (.int .i32 1)) o (flatT qs.reverse) := ⟨by simpa using hR.1, fun j x hx => by
    rw [World.cell?_setCell_other]
    · exact hR.2 j x hx
    · intro e; exact hor (congrArg Addr.block e).symm⟩
  have CB := Lib.hid (once_any qs Q rb o cap 1 _ hB1 hR1)
  have hkl : 1 ≤ (keysT qs).length := by unfold keysT; rw [List.length_map]; have := Q.two; omega
  have CL := Lib.hid (load_any rb 0 _ (hB1.cell 0))
  have c1 := hB.cell 1
  have f1 := hB.free 1
  have hw1 := (Below.refl rb w).setCell (p := ⟨rb, 1, none⟩) (Nat.le_refl rb) (.int .i32 1)
  have hnot := not_run
  have HQ := Lib.hid Q
  clear hB hR hB1 hR1 Q
  go_enter_defers Try.func26, Try.ntmps26
  go_wp2_with (go_at_call 33; refine (lock_free ⟨rb, 1, none⟩ _ c1 f1).mono ?_; rintro e w' ⟨rfl, rfl⟩)
  with_reducible refine CL.out.mono ?_
  rintro e w2 ⟨rfl, rfl⟩
  go_wp2_with fail
  with_reducible refine CB.out.mono ?_
  rintro e w2 ⟨rfl, b, hB2, hS2, hb2⟩
  go_wp2_with fail
  have hn := HQ.out.tab.ne
  have hB3 : Blk (w2.drew.setCell ⟨rb, 0, none⟩ (.int .u32 1)) rb (RpD 1 1 b) 74 := Blk.set (w := w2.drew) hB2 0 _
  have hS3 : BSR qs (keysT qs) b (w2.drew.setCell ⟨rb, 0, none⟩ (.int .u32 1)) := BSR.set (w := w2.drew) (hS2.on ((Below.refl _ _).drew)) (show Blk w2.drew rb (RpD 0 1 b) 74 from hB2) hn hkl
  have hB4 := hB3.set 1 (.int .i32 0)
  have hS4 := hS3.set (i := 1) (v := .int .i32 0) hB3 hn hkl
  have hw4 := (((hw1.trans hb2).drew).setCell (p := ⟨rb, 0, none⟩) (Nat.le_refl rb) (.int .u32 1)).setCell (p := ⟨rb, 1, none⟩) (Nat.le_refl rb) (.int .i32 0)
  have hc0 := hB2.cell 0
  have hf0 := hB2.free 0
  have hc1 := hB3.cell 1
  have hf1 := hB3.free 1
  refine leaves_cons (f := 35) (args := #[.pointer (some ⟨rb, 0, none⟩), .bool true]) (by simp) (by simp [go_sem]) ?_
  refine (store_deferred ⟨rb, 0, none⟩ (.int .u32 0) .returning _ hc0 hf0).mono ?_
  rintro e u' w'' ⟨rfl, rfl, rfl⟩
  refine leaves_cons (f := 34) (args := #[.pointer (some ⟨rb, 1, none⟩)]) (by simp [settle]) (by simp [go_sem]) ?_
  refine (unlock_deferred ⟨rb, 1, none⟩ _ _ hc1 hf1).mono ?_
  rintro e u' w'' ⟨rfl, rfl, rfl⟩
  have hfin : ∃ b, Blk ((w2.drew.setCell ⟨rb, 0, none⟩ (.int .u32 1)).setCell ⟨rb, 1, none⟩ (.int .i32 0)) rb (RpD 1 0 b) 74 ∧ BSR qs (keysT qs) b ((w2.drew.setCell ⟨rb, 0, none⟩ (.int .u32 1)).setCell ⟨rb, 1, none⟩ (.int .i32 0)) ∧ Below rb w ((w2.drew.setCell ⟨rb, 0, none⟩ (.int .u32 1)).setCell ⟨rb, 1, none⟩ (.int .i32 0)) := ⟨b, hB4, hS4, hw4⟩
  clear hB2 hS2 hB3 hS3 hB4 hS4 hw4
  simp [Leaves, settle, results, Try.results26]
  exact hfin
set_option maxRecDepth 100000 in
set_option maxHeartbeats 1600000 in
theorem do_any (qs : Tab) (Q : QOk qs) (rb o cap : Nat) (w : World) (hB : Blk w rb (RpC o (2 * qs.length) cap) 74) (hR : RowS w o (flatT qs.reverse)) (hor : o ≠ rb) :
    Calls Try.prog 21 #[.pointer (some ⟨rb, 0, none⟩), .func (.func 22) #[.pointer (some ⟨rb, 0, none⟩)] #[]] w fun e w' => e = .returned (.tuple #[]) ∧ ∃ b, Blk w' rb (RpD 1 0 b) 74 ∧ BSR qs (keysT qs) b w' ∧ Below rb w w' := by
  have CS := Lib.hid (slow_any qs Q rb o cap w hB hR hor)
  have CL := Lib.hid (load_any rb 0 w (hB.cell 0))
  have hnot := not_run
  clear hB hR
  go_enter Try.func21, Try.ntmps21
  go_wp2_with fail
  with_reducible refine CL.out.mono ?_
  rintro e w2 ⟨rfl, rfl⟩
  go_wp2_with fail
  with_reducible refine CS.out.mono ?_
  rintro e w2 ⟨rfl, hf⟩
  go_wp2_with fail
  go_end0
  exact ⟨rfl, hf⟩
set_option maxRecDepth 100000 in
set_option maxHeartbeats 1600000 in
theorem replacer_any (qs : Tab) (Q : QOk qs) (rb o cap : Nat) (s : ByteArray) (w : World) (hs : s.data.toList.length ≤ 1073741824) (hB : Blk w rb (RpC o (2 * qs.length) cap) 74) (hR : RowS w o (flatT qs.reverse)) (hor : o ≠ rb) :
    Calls Try.prog 18 #[.pointer (some ⟨rb, 0, none⟩), .string s] w fun e w' => e = .returned (.string ⟨(escF qs s.data.toList).toArray⟩) ∧ Below rb w w' := by
  have CD := Lib.hid (do_any qs Q rb o cap w hB hR hor)
  have CR := Lib.hid (fun b w' (H : BSR qs (keysT qs) b w') => replace_any qs (keysT qs) b s w' H Q.tab hs)
  have kb := hB.lt
  clear hB hR
  go_enter Try.func18, Try.ntmps18
  go_wp2_with fail
  with_reducible refine CD.out.mono ?_
  rintro e w2 ⟨rfl, b, hB2, hS2, hb2⟩
  have c3 := hB2.cell 3
  simp at c3
  have kb2 := hB2.lt
  clear hB2
  go_wp2_with fail
  with_reducible refine (CR.out b w2 hS2).mono ?_
  rintro e w3 ⟨rfl, hb3⟩
  go_wp2_with fail
  go_returns
  exact ⟨rfl, hb2.trans (hb3.mono (by omega))⟩
/-- Escape's table, the last pair first. -/
def tabE : Tab := [(13, [38, 35, 49, 51, 59]), (62, [38, 103, 116, 59]), (60, [38, 108, 116, 59]), (38, [38, 97, 109, 112, 59])]
def tabV : Tab := [(13, [38, 35, 49, 51, 59]), (10, [38, 35, 49, 48, 59]), (9, [38, 35, 57, 59]), (34, [38, 113, 117, 111, 116, 59]), (60, [38, 108, 116, 59]), (38, [38, 97, 109, 112, 59])]
theorem okE : QOk tabE := ⟨by decide, by decide, by decide, by decide, by decide, ⟨_, List.mem_cons_self .., by decide⟩⟩
theorem okV : QOk tabV := ⟨by decide, by decide, by decide, by decide, by decide, ⟨_, List.mem_cons_self .., by decide⟩⟩
set_option maxRecDepth 100000 in
set_option maxHeartbeats 1600000 in
theorem escape_any (s : ByteArray) (w : World) (hs : s.data.toList.length ≤ 1073741824) :
    Calls Try.prog 14 #[.string s] w fun e w' => e = .returned (.string ⟨(escF tabE s.data.toList).toArray⟩) ∧ Below w.heap.size w w' := by
  have hB0 : Blk (w.alloc (.cells #[.string ⟨#[38]⟩, .string ⟨#[38, 97, 109, 112, 59]⟩, .string ⟨#[60]⟩, .string ⟨#[38, 108, 116, 59]⟩, .string ⟨#[62]⟩, .string ⟨#[38, 103, 116, 59]⟩, .string ⟨#[13]⟩, .string ⟨#[38, 35, 49, 51, 59]⟩] 9)) w.heap.size ((flatT tabE.reverse).map Value.string).toArray 9 := Blk.new w #[.string ⟨#[38]⟩, .string ⟨#[38, 97, 109, 112, 59]⟩, .string ⟨#[60]⟩, .string ⟨#[38, 108, 116, 59]⟩, .string ⟨#[62]⟩, .string ⟨#[38, 103, 116, 59]⟩, .string ⟨#[13]⟩, .string ⟨#[38, 35, 49, 51, 59]⟩] _
  have CN := Lib.hid (new_any w.heap.size 8 8 (flatT tabE.reverse) _ hB0 rfl rfl (by decide) (by decide))
  have CR := Lib.hid (fun rb o cap w' hB hR hor => replacer_any tabE okE rb o cap s w' hs hB hR hor)
  have hw1 : Below w.heap.size w (w.alloc (.cells #[.string ⟨#[38]⟩, .string ⟨#[38, 97, 109, 112, 59]⟩, .string ⟨#[60]⟩, .string ⟨#[38, 108, 116, 59]⟩, .string ⟨#[62]⟩, .string ⟨#[38, 103, 116, 59]⟩, .string ⟨#[13]⟩, .string ⟨#[38, 35, 49, 51, 59]⟩] 9)) := (Below.refl _ _).alloc (Nat.le_refl _) _
  have hs1 : (w.alloc (.cells #[.string ⟨#[38]⟩, .string ⟨#[38, 97, 109, 112, 59]⟩, .string ⟨#[60]⟩, .string ⟨#[38, 108, 116, 59]⟩, .string ⟨#[62]⟩, .string ⟨#[38, 103, 116, 59]⟩, .string ⟨#[13]⟩, .string ⟨#[38, 35, 49, 51, 59]⟩] 9)).heap.size = w.heap.size + 1 := by simp
  clear hB0
  go_enter Try.func14, Try.ntmps14
  go_wp2_with fail
  generalize w.alloc (.cells #[.string ⟨#[38]⟩, .string ⟨#[38, 97, 109, 112, 59]⟩, .string ⟨#[60]⟩, .string ⟨#[38, 108, 116, 59]⟩, .string ⟨#[62]⟩, .string ⟨#[38, 103, 116, 59]⟩, .string ⟨#[13]⟩, .string ⟨#[38, 35, 49, 51, 59]⟩] 9) = W at *
  with_reducible refine CN.out.mono ?_
  rintro e w2 ⟨⟨rb, o, cap, rfl, hle, hB, hR, hor⟩, hb⟩
  have hw2 := hw1.trans (hb.mono (by omega))
  have hB' : Blk w2 rb (RpC o (2 * List.length tabE) cap) 74 := hB
  go_wp2_with fail
  with_reducible refine (CR.out rb o cap w2 hB' hR hor).mono ?_
  rintro e w3 ⟨rfl, hb3⟩
  go_wp2_with fail
  go_returns
  exact ⟨rfl, hw2.trans (hb3.mono (by omega))⟩
set_option maxRecDepth 100000 in
set_option maxHeartbeats 1600000 in
theorem value_any (s : ByteArray) (w : World) (hs : s.data.toList.length ≤ 1073741824) :
    Calls Try.prog 13 #[.string s] w fun e w' => e = .returned (.string ⟨(escF tabV s.data.toList).toArray⟩) ∧ Below w.heap.size w w' := by
  have hB0 : Blk (w.alloc (.cells #[.string ⟨#[38]⟩, .string ⟨#[38, 97, 109, 112, 59]⟩, .string ⟨#[60]⟩, .string ⟨#[38, 108, 116, 59]⟩, .string ⟨#[34]⟩, .string ⟨#[38, 113, 117, 111, 116, 59]⟩, .string ⟨#[9]⟩, .string ⟨#[38, 35, 57, 59]⟩, .string ⟨#[10]⟩, .string ⟨#[38, 35, 49, 48, 59]⟩, .string ⟨#[13]⟩, .string ⟨#[38, 35, 49, 51, 59]⟩] 9)) w.heap.size ((flatT tabV.reverse).map Value.string).toArray 9 := Blk.new w #[.string ⟨#[38]⟩, .string ⟨#[38, 97, 109, 112, 59]⟩, .string ⟨#[60]⟩, .string ⟨#[38, 108, 116, 59]⟩, .string ⟨#[34]⟩, .string ⟨#[38, 113, 117, 111, 116, 59]⟩, .string ⟨#[9]⟩, .string ⟨#[38, 35, 57, 59]⟩, .string ⟨#[10]⟩, .string ⟨#[38, 35, 49, 48, 59]⟩, .string ⟨#[13]⟩, .string ⟨#[38, 35, 49, 51, 59]⟩] _
  have CN := Lib.hid (new_any w.heap.size 12 12 (flatT tabV.reverse) _ hB0 rfl rfl (by decide) (by decide))
  have CR := Lib.hid (fun rb o cap w' hB hR hor => replacer_any tabV okV rb o cap s w' hs hB hR hor)
  have hw1 : Below w.heap.size w (w.alloc (.cells #[.string ⟨#[38]⟩, .string ⟨#[38, 97, 109, 112, 59]⟩, .string ⟨#[60]⟩, .string ⟨#[38, 108, 116, 59]⟩, .string ⟨#[34]⟩, .string ⟨#[38, 113, 117, 111, 116, 59]⟩, .string ⟨#[9]⟩, .string ⟨#[38, 35, 57, 59]⟩, .string ⟨#[10]⟩, .string ⟨#[38, 35, 49, 48, 59]⟩, .string ⟨#[13]⟩, .string ⟨#[38, 35, 49, 51, 59]⟩] 9)) := (Below.refl _ _).alloc (Nat.le_refl _) _
  have hs1 : (w.alloc (.cells #[.string ⟨#[38]⟩, .string ⟨#[38, 97, 109, 112, 59]⟩, .string ⟨#[60]⟩, .string ⟨#[38, 108, 116, 59]⟩, .string ⟨#[34]⟩, .string ⟨#[38, 113, 117, 111, 116, 59]⟩, .string ⟨#[9]⟩, .string ⟨#[38, 35, 57, 59]⟩, .string ⟨#[10]⟩, .string ⟨#[38, 35, 49, 48, 59]⟩, .string ⟨#[13]⟩, .string ⟨#[38, 35, 49, 51, 59]⟩] 9)).heap.size = w.heap.size + 1 := by simp
  clear hB0
  go_enter Try.func13, Try.ntmps13
  go_wp2_with fail
  generalize w.alloc (.cells #[.string ⟨#[38]⟩, .string ⟨#[38, 97, 109, 112, 59]⟩, .string ⟨#[60]⟩, .string ⟨#[38, 108, 116, 59]⟩, .string ⟨#[34]⟩, .string ⟨#[38, 113, 117, 111, 116, 59]⟩, .string ⟨#[9]⟩, .string ⟨#[38, 35, 57, 59]⟩, .string ⟨#[10]⟩, .string ⟨#[38, 35, 49, 48, 59]⟩, .string ⟨#[13]⟩, .string ⟨#[38, 35, 49, 51, 59]⟩] 9) = W at *
  with_reducible refine CN.out.mono ?_
  rintro e w2 ⟨⟨rb, o, cap, rfl, hle, hB, hR, hor⟩, hb⟩
  have hw2 := hw1.trans (hb.mono (by omega))
  have hB' : Blk w2 rb (RpC o (2 * List.length tabV) cap) 74 := hB
  go_wp2_with fail
  with_reducible refine (CR.out rb o cap w2 hB' hR hor).mono ?_
  rintro e w3 ⟨rfl, hb3⟩
  go_wp2_with fail
  go_returns
  exact ⟨rfl, hw2.trans (hb3.mono (by omega))⟩
end Go.Proofs.Ytgdbbocfiejlfaa
