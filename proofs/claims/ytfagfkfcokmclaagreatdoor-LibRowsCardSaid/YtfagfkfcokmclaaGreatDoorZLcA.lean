/- caller.do at the names that the laws call (printed by lca.py). -/
import Derived.Test.YtfagfkfcokmclaaGreatDoorZLbA
set_option linter.unusedSimpArgs false
set_option linter.unusedVariables false
set_option linter.constructorNameAsVariable false
namespace Go.Proofs.YtfagfkfcokmclaaGreatDoor
open Go.RowKit Go.Sort

set_option maxRecDepth 100000 in
set_option maxHeartbeats 800000 in
theorem do_substring (xs : List At) (n cc : Nat) (aa : Option Addr) (w : World)
    (hC : ∀ W, Below w.heap.size w W → Calls Tryz.prog 53 #[.agg #[.pointer none, .slice aa n cc], .string ⟨#[115, 117, 98, 115, 116, 114, 105, 110, 103]⟩] W fun e w' => ∃ v, e = .returned v ∧ OwnI W.heap.size w' v xs ∧ Below W.heap.size W w') :
    Calls Tryz.prog 18 #[.agg #[.pointer none, .slice aa n cc], .string ⟨#[115, 117, 98, 115, 116, 114, 105, 110, 103]⟩] w fun e w' => ∃ v, e = .returned v ∧ OwnI w.heap.size w' v xs ∧ Below w.heap.size w w' := by
  have hb0 : Below w.heap.size w (w.alloc (.cells #[.pointer none, .slice aa n cc] 51)) := (Below.refl _ _).alloc (Nat.le_refl _) _
  have CC := Lib.hid (hC _ hb0)
  clear hC
  go_enter Tryz.func18, Tryz.ntmps18
  go_wp2_with fail
  with_reducible refine CC.out.mono ?_
  rintro e w1 ⟨v, rfl, hO, hb1⟩
  have HO := Lib.hid (OwnI.low hO hb0.size)
  have hw1 := hb0.trans (hb1.mono hb0.size)
  clear hO hb0 hb1 CC
  go_wp2_with fail
  go_returns
  exact ⟨_, rfl, HO.out, hw1⟩
set_option maxRecDepth 100000 in
set_option maxHeartbeats 800000 in
theorem do_index_of (xs : List At) (n cc : Nat) (aa : Option Addr) (w : World)
    (hC : ∀ W, Below w.heap.size w W → Calls Tryz.prog 52 #[.agg #[.pointer none, .slice aa n cc], .string ⟨#[105, 110, 100, 101, 120, 45, 111, 102]⟩] W fun e w' => ∃ v, e = .returned v ∧ OwnI W.heap.size w' v xs ∧ Below W.heap.size W w') :
    Calls Tryz.prog 18 #[.agg #[.pointer none, .slice aa n cc], .string ⟨#[105, 110, 100, 101, 120, 45, 111, 102]⟩] w fun e w' => ∃ v, e = .returned v ∧ OwnI w.heap.size w' v xs ∧ Below w.heap.size w w' := by
  have hb0 : Below w.heap.size w (w.alloc (.cells #[.pointer none, .slice aa n cc] 51)) := (Below.refl _ _).alloc (Nat.le_refl _) _
  have CC := Lib.hid (hC _ hb0)
  clear hC
  go_enter Tryz.func18, Tryz.ntmps18
  go_wp2_with fail
  with_reducible refine CC.out.mono ?_
  rintro e w1 ⟨v, rfl, hO, hb1⟩
  have HO := Lib.hid (OwnI.low hO hb0.size)
  have hw1 := hb0.trans (hb1.mono hb0.size)
  clear hO hb0 hb1 CC
  go_wp2_with fail
  go_returns
  exact ⟨_, rfl, HO.out, hw1⟩
set_option maxRecDepth 100000 in
set_option maxHeartbeats 800000 in
theorem do_floor (xs : List At) (n cc : Nat) (aa : Option Addr) (w : World)
    (hC : ∀ W, Below w.heap.size w W → Calls Tryz.prog 46 #[.agg #[.pointer none, .slice aa n cc], .string ⟨#[102, 108, 111, 111, 114]⟩] W fun e w' => ∃ v, e = .returned v ∧ OwnI W.heap.size w' v xs ∧ Below W.heap.size W w') :
    Calls Tryz.prog 18 #[.agg #[.pointer none, .slice aa n cc], .string ⟨#[102, 108, 111, 111, 114]⟩] w fun e w' => ∃ v, e = .returned v ∧ OwnI w.heap.size w' v xs ∧ Below w.heap.size w w' := by
  have hb0 : Below w.heap.size w (w.alloc (.cells #[.pointer none, .slice aa n cc] 51)) := (Below.refl _ _).alloc (Nat.le_refl _) _
  have CC := Lib.hid (hC _ hb0)
  clear hC
  go_enter Tryz.func18, Tryz.ntmps18
  go_wp2_with fail
  with_reducible refine CC.out.mono ?_
  rintro e w1 ⟨v, rfl, hO, hb1⟩
  have HO := Lib.hid (OwnI.low hO hb0.size)
  have hw1 := hb0.trans (hb1.mono hb0.size)
  clear hO hb0 hb1 CC
  go_wp2_with fail
  go_returns
  exact ⟨_, rfl, HO.out, hw1⟩
set_option maxRecDepth 100000 in
set_option maxHeartbeats 800000 in
theorem do_ceiling (xs : List At) (n cc : Nat) (aa : Option Addr) (w : World)
    (hC : ∀ W, Below w.heap.size w W → Calls Tryz.prog 46 #[.agg #[.pointer none, .slice aa n cc], .string ⟨#[99, 101, 105, 108, 105, 110, 103]⟩] W fun e w' => ∃ v, e = .returned v ∧ OwnI W.heap.size w' v xs ∧ Below W.heap.size W w') :
    Calls Tryz.prog 18 #[.agg #[.pointer none, .slice aa n cc], .string ⟨#[99, 101, 105, 108, 105, 110, 103]⟩] w fun e w' => ∃ v, e = .returned v ∧ OwnI w.heap.size w' v xs ∧ Below w.heap.size w w' := by
  have hb0 : Below w.heap.size w (w.alloc (.cells #[.pointer none, .slice aa n cc] 51)) := (Below.refl _ _).alloc (Nat.le_refl _) _
  have CC := Lib.hid (hC _ hb0)
  clear hC
  go_enter Tryz.func18, Tryz.ntmps18
  go_wp2_with fail
  with_reducible refine CC.out.mono ?_
  rintro e w1 ⟨v, rfl, hO, hb1⟩
  have HO := Lib.hid (OwnI.low hO hb0.size)
  have hw1 := hb0.trans (hb1.mono hb0.size)
  clear hO hb0 hb1 CC
  go_wp2_with fail
  go_returns
  exact ⟨_, rfl, HO.out, hw1⟩
set_option maxRecDepth 100000 in
set_option maxHeartbeats 800000 in
theorem do_round (xs : List At) (n cc : Nat) (aa : Option Addr) (w : World)
    (hC : ∀ W, Below w.heap.size w W → Calls Tryz.prog 46 #[.agg #[.pointer none, .slice aa n cc], .string ⟨#[114, 111, 117, 110, 100]⟩] W fun e w' => ∃ v, e = .returned v ∧ OwnI W.heap.size w' v xs ∧ Below W.heap.size W w') :
    Calls Tryz.prog 18 #[.agg #[.pointer none, .slice aa n cc], .string ⟨#[114, 111, 117, 110, 100]⟩] w fun e w' => ∃ v, e = .returned v ∧ OwnI w.heap.size w' v xs ∧ Below w.heap.size w w' := by
  have hb0 : Below w.heap.size w (w.alloc (.cells #[.pointer none, .slice aa n cc] 51)) := (Below.refl _ _).alloc (Nat.le_refl _) _
  have CC := Lib.hid (hC _ hb0)
  clear hC
  go_enter Tryz.func18, Tryz.ntmps18
  go_wp2_with fail
  with_reducible refine CC.out.mono ?_
  rintro e w1 ⟨v, rfl, hO, hb1⟩
  have HO := Lib.hid (OwnI.low hO hb0.size)
  have hw1 := hb0.trans (hb1.mono hb0.size)
  clear hO hb0 hb1 CC
  go_wp2_with fail
  go_returns
  exact ⟨_, rfl, HO.out, hw1⟩
set_option maxRecDepth 100000 in
set_option maxHeartbeats 800000 in
theorem do_abs (xs : List At) (n cc : Nat) (aa : Option Addr) (w : World)
    (hC : ∀ W, Below w.heap.size w W → Calls Tryz.prog 46 #[.agg #[.pointer none, .slice aa n cc], .string ⟨#[97, 98, 115]⟩] W fun e w' => ∃ v, e = .returned v ∧ OwnI W.heap.size w' v xs ∧ Below W.heap.size W w') :
    Calls Tryz.prog 18 #[.agg #[.pointer none, .slice aa n cc], .string ⟨#[97, 98, 115]⟩] w fun e w' => ∃ v, e = .returned v ∧ OwnI w.heap.size w' v xs ∧ Below w.heap.size w w' := by
  have hb0 : Below w.heap.size w (w.alloc (.cells #[.pointer none, .slice aa n cc] 51)) := (Below.refl _ _).alloc (Nat.le_refl _) _
  have CC := Lib.hid (hC _ hb0)
  clear hC
  go_enter Tryz.func18, Tryz.ntmps18
  go_wp2_with fail
  with_reducible refine CC.out.mono ?_
  rintro e w1 ⟨v, rfl, hO, hb1⟩
  have HO := Lib.hid (OwnI.low hO hb0.size)
  have hw1 := hb0.trans (hb1.mono hb0.size)
  clear hO hb0 hb1 CC
  go_wp2_with fail
  go_returns
  exact ⟨_, rfl, HO.out, hw1⟩
set_option maxRecDepth 100000 in
set_option maxHeartbeats 800000 in
theorem do_concat (xs : List At) (n cc : Nat) (aa : Option Addr) (w : World)
    (hC : ∀ W, Below w.heap.size w W → Calls Tryz.prog 34 #[.agg #[.pointer none, .slice aa n cc]] W fun e w' => ∃ v, e = .returned v ∧ OwnI W.heap.size w' v xs ∧ Below W.heap.size W w') :
    Calls Tryz.prog 18 #[.agg #[.pointer none, .slice aa n cc], .string ⟨#[99, 111, 110, 99, 97, 116]⟩] w fun e w' => ∃ v, e = .returned v ∧ OwnI w.heap.size w' v xs ∧ Below w.heap.size w w' := by
  have hb0 : Below w.heap.size w (w.alloc (.cells #[.pointer none, .slice aa n cc] 51)) := (Below.refl _ _).alloc (Nat.le_refl _) _
  have CC := Lib.hid (hC _ hb0)
  clear hC
  go_enter Tryz.func18, Tryz.ntmps18
  go_wp2_with fail
  with_reducible refine CC.out.mono ?_
  rintro e w1 ⟨v, rfl, hO, hb1⟩
  have HO := Lib.hid (OwnI.low hO hb0.size)
  have hw1 := hb0.trans (hb1.mono hb0.size)
  clear hO hb0 hb1 CC
  go_wp2_with fail
  go_returns
  exact ⟨_, rfl, HO.out, hw1⟩
set_option maxRecDepth 100000 in
set_option maxHeartbeats 800000 in
theorem do_starts_with (xs : List At) (n cc : Nat) (aa : Option Addr) (w : World)
    (hC : ∀ W, Below w.heap.size w W → Calls Tryz.prog 53 #[.agg #[.pointer none, .slice aa n cc], .string ⟨#[115, 116, 97, 114, 116, 115, 45, 119, 105, 116, 104]⟩] W fun e w' => ∃ v, e = .returned v ∧ OwnI W.heap.size w' v xs ∧ Below W.heap.size W w') :
    Calls Tryz.prog 18 #[.agg #[.pointer none, .slice aa n cc], .string ⟨#[115, 116, 97, 114, 116, 115, 45, 119, 105, 116, 104]⟩] w fun e w' => ∃ v, e = .returned v ∧ OwnI w.heap.size w' v xs ∧ Below w.heap.size w w' := by
  have hb0 : Below w.heap.size w (w.alloc (.cells #[.pointer none, .slice aa n cc] 51)) := (Below.refl _ _).alloc (Nat.le_refl _) _
  have CC := Lib.hid (hC _ hb0)
  clear hC
  go_enter Tryz.func18, Tryz.ntmps18
  go_wp2_with fail
  with_reducible refine CC.out.mono ?_
  rintro e w1 ⟨v, rfl, hO, hb1⟩
  have HO := Lib.hid (OwnI.low hO hb0.size)
  have hw1 := hb0.trans (hb1.mono hb0.size)
  clear hO hb0 hb1 CC
  go_wp2_with fail
  go_returns
  exact ⟨_, rfl, HO.out, hw1⟩
set_option maxRecDepth 100000 in
set_option maxHeartbeats 800000 in
theorem do_ends_with (xs : List At) (n cc : Nat) (aa : Option Addr) (w : World)
    (hC : ∀ W, Below w.heap.size w W → Calls Tryz.prog 53 #[.agg #[.pointer none, .slice aa n cc], .string ⟨#[101, 110, 100, 115, 45, 119, 105, 116, 104]⟩] W fun e w' => ∃ v, e = .returned v ∧ OwnI W.heap.size w' v xs ∧ Below W.heap.size W w') :
    Calls Tryz.prog 18 #[.agg #[.pointer none, .slice aa n cc], .string ⟨#[101, 110, 100, 115, 45, 119, 105, 116, 104]⟩] w fun e w' => ∃ v, e = .returned v ∧ OwnI w.heap.size w' v xs ∧ Below w.heap.size w w' := by
  have hb0 : Below w.heap.size w (w.alloc (.cells #[.pointer none, .slice aa n cc] 51)) := (Below.refl _ _).alloc (Nat.le_refl _) _
  have CC := Lib.hid (hC _ hb0)
  clear hC
  go_enter Tryz.func18, Tryz.ntmps18
  go_wp2_with fail
  with_reducible refine CC.out.mono ?_
  rintro e w1 ⟨v, rfl, hO, hb1⟩
  have HO := Lib.hid (OwnI.low hO hb0.size)
  have hw1 := hb0.trans (hb1.mono hb0.size)
  clear hO hb0 hb1 CC
  go_wp2_with fail
  go_returns
  exact ⟨_, rfl, HO.out, hw1⟩
set_option maxRecDepth 100000 in
set_option maxHeartbeats 800000 in
theorem do_contains (xs : List At) (n cc : Nat) (aa : Option Addr) (w : World)
    (hC : ∀ W, Below w.heap.size w W → Calls Tryz.prog 53 #[.agg #[.pointer none, .slice aa n cc], .string ⟨#[99, 111, 110, 116, 97, 105, 110, 115]⟩] W fun e w' => ∃ v, e = .returned v ∧ OwnI W.heap.size w' v xs ∧ Below W.heap.size W w') :
    Calls Tryz.prog 18 #[.agg #[.pointer none, .slice aa n cc], .string ⟨#[99, 111, 110, 116, 97, 105, 110, 115]⟩] w fun e w' => ∃ v, e = .returned v ∧ OwnI w.heap.size w' v xs ∧ Below w.heap.size w w' := by
  have hb0 : Below w.heap.size w (w.alloc (.cells #[.pointer none, .slice aa n cc] 51)) := (Below.refl _ _).alloc (Nat.le_refl _) _
  have CC := Lib.hid (hC _ hb0)
  clear hC
  go_enter Tryz.func18, Tryz.ntmps18
  go_wp2_with fail
  with_reducible refine CC.out.mono ?_
  rintro e w1 ⟨v, rfl, hO, hb1⟩
  have HO := Lib.hid (OwnI.low hO hb0.size)
  have hw1 := hb0.trans (hb1.mono hb0.size)
  clear hO hb0 hb1 CC
  go_wp2_with fail
  go_returns
  exact ⟨_, rfl, HO.out, hw1⟩
set_option maxRecDepth 100000 in
set_option maxHeartbeats 800000 in
theorem do_string_length (xs : List At) (n cc : Nat) (aa : Option Addr) (w : World)
    (hC : ∀ W, Below w.heap.size w W → Calls Tryz.prog 53 #[.agg #[.pointer none, .slice aa n cc], .string ⟨#[115, 116, 114, 105, 110, 103, 45, 108, 101, 110, 103, 116, 104]⟩] W fun e w' => ∃ v, e = .returned v ∧ OwnI W.heap.size w' v xs ∧ Below W.heap.size W w') :
    Calls Tryz.prog 18 #[.agg #[.pointer none, .slice aa n cc], .string ⟨#[115, 116, 114, 105, 110, 103, 45, 108, 101, 110, 103, 116, 104]⟩] w fun e w' => ∃ v, e = .returned v ∧ OwnI w.heap.size w' v xs ∧ Below w.heap.size w w' := by
  have hb0 : Below w.heap.size w (w.alloc (.cells #[.pointer none, .slice aa n cc] 51)) := (Below.refl _ _).alloc (Nat.le_refl _) _
  have CC := Lib.hid (hC _ hb0)
  clear hC
  go_enter Tryz.func18, Tryz.ntmps18
  go_wp2_with fail
  with_reducible refine CC.out.mono ?_
  rintro e w1 ⟨v, rfl, hO, hb1⟩
  have HO := Lib.hid (OwnI.low hO hb0.size)
  have hw1 := hb0.trans (hb1.mono hb0.size)
  clear hO hb0 hb1 CC
  go_wp2_with fail
  go_returns
  exact ⟨_, rfl, HO.out, hw1⟩
set_option maxRecDepth 100000 in
set_option maxHeartbeats 800000 in
theorem do_substring_before (xs : List At) (n cc : Nat) (aa : Option Addr) (w : World)
    (hC : ∀ W, Below w.heap.size w W → Calls Tryz.prog 53 #[.agg #[.pointer none, .slice aa n cc], .string ⟨#[115, 117, 98, 115, 116, 114, 105, 110, 103, 45, 98, 101, 102, 111, 114, 101]⟩] W fun e w' => ∃ v, e = .returned v ∧ OwnI W.heap.size w' v xs ∧ Below W.heap.size W w') :
    Calls Tryz.prog 18 #[.agg #[.pointer none, .slice aa n cc], .string ⟨#[115, 117, 98, 115, 116, 114, 105, 110, 103, 45, 98, 101, 102, 111, 114, 101]⟩] w fun e w' => ∃ v, e = .returned v ∧ OwnI w.heap.size w' v xs ∧ Below w.heap.size w w' := by
  have hb0 : Below w.heap.size w (w.alloc (.cells #[.pointer none, .slice aa n cc] 51)) := (Below.refl _ _).alloc (Nat.le_refl _) _
  have CC := Lib.hid (hC _ hb0)
  clear hC
  go_enter Tryz.func18, Tryz.ntmps18
  go_wp2_with fail
  with_reducible refine CC.out.mono ?_
  rintro e w1 ⟨v, rfl, hO, hb1⟩
  have HO := Lib.hid (OwnI.low hO hb0.size)
  have hw1 := hb0.trans (hb1.mono hb0.size)
  clear hO hb0 hb1 CC
  go_wp2_with fail
  go_returns
  exact ⟨_, rfl, HO.out, hw1⟩
set_option maxRecDepth 100000 in
set_option maxHeartbeats 800000 in
theorem do_substring_after (xs : List At) (n cc : Nat) (aa : Option Addr) (w : World)
    (hC : ∀ W, Below w.heap.size w W → Calls Tryz.prog 53 #[.agg #[.pointer none, .slice aa n cc], .string ⟨#[115, 117, 98, 115, 116, 114, 105, 110, 103, 45, 97, 102, 116, 101, 114]⟩] W fun e w' => ∃ v, e = .returned v ∧ OwnI W.heap.size w' v xs ∧ Below W.heap.size W w') :
    Calls Tryz.prog 18 #[.agg #[.pointer none, .slice aa n cc], .string ⟨#[115, 117, 98, 115, 116, 114, 105, 110, 103, 45, 97, 102, 116, 101, 114]⟩] w fun e w' => ∃ v, e = .returned v ∧ OwnI w.heap.size w' v xs ∧ Below w.heap.size w w' := by
  have hb0 : Below w.heap.size w (w.alloc (.cells #[.pointer none, .slice aa n cc] 51)) := (Below.refl _ _).alloc (Nat.le_refl _) _
  have CC := Lib.hid (hC _ hb0)
  clear hC
  go_enter Tryz.func18, Tryz.ntmps18
  go_wp2_with fail
  with_reducible refine CC.out.mono ?_
  rintro e w1 ⟨v, rfl, hO, hb1⟩
  have HO := Lib.hid (OwnI.low hO hb0.size)
  have hw1 := hb0.trans (hb1.mono hb0.size)
  clear hO hb0 hb1 CC
  go_wp2_with fail
  go_returns
  exact ⟨_, rfl, HO.out, hw1⟩
set_option maxRecDepth 100000 in
set_option maxHeartbeats 800000 in
theorem do_string_to_codepoints (xs : List At) (n cc : Nat) (aa : Option Addr) (w : World)
    (hC : ∀ W, Below w.heap.size w W → Calls Tryz.prog 53 #[.agg #[.pointer none, .slice aa n cc], .string ⟨#[115, 116, 114, 105, 110, 103, 45, 116, 111, 45, 99, 111, 100, 101, 112, 111, 105, 110, 116, 115]⟩] W fun e w' => ∃ v, e = .returned v ∧ OwnI W.heap.size w' v xs ∧ Below W.heap.size W w') :
    Calls Tryz.prog 18 #[.agg #[.pointer none, .slice aa n cc], .string ⟨#[115, 116, 114, 105, 110, 103, 45, 116, 111, 45, 99, 111, 100, 101, 112, 111, 105, 110, 116, 115]⟩] w fun e w' => ∃ v, e = .returned v ∧ OwnI w.heap.size w' v xs ∧ Below w.heap.size w w' := by
  have hb0 : Below w.heap.size w (w.alloc (.cells #[.pointer none, .slice aa n cc] 51)) := (Below.refl _ _).alloc (Nat.le_refl _) _
  have CC := Lib.hid (hC _ hb0)
  clear hC
  go_enter Tryz.func18, Tryz.ntmps18
  go_wp2_with fail
  with_reducible refine CC.out.mono ?_
  rintro e w1 ⟨v, rfl, hO, hb1⟩
  have HO := Lib.hid (OwnI.low hO hb0.size)
  have hw1 := hb0.trans (hb1.mono hb0.size)
  clear hO hb0 hb1 CC
  go_wp2_with fail
  go_returns
  exact ⟨_, rfl, HO.out, hw1⟩
set_option maxRecDepth 100000 in
set_option maxHeartbeats 800000 in
theorem do_codepoints_to_string (xs : List At) (n cc : Nat) (aa : Option Addr) (w : World)
    (hC : ∀ W, Below w.heap.size w W → Calls Tryz.prog 39 #[.agg #[.pointer none, .slice aa n cc]] W fun e w' => ∃ v, e = .returned v ∧ OwnI W.heap.size w' v xs ∧ Below W.heap.size W w') :
    Calls Tryz.prog 18 #[.agg #[.pointer none, .slice aa n cc], .string ⟨#[99, 111, 100, 101, 112, 111, 105, 110, 116, 115, 45, 116, 111, 45, 115, 116, 114, 105, 110, 103]⟩] w fun e w' => ∃ v, e = .returned v ∧ OwnI w.heap.size w' v xs ∧ Below w.heap.size w w' := by
  have hb0 : Below w.heap.size w (w.alloc (.cells #[.pointer none, .slice aa n cc] 51)) := (Below.refl _ _).alloc (Nat.le_refl _) _
  have CC := Lib.hid (hC _ hb0)
  clear hC
  go_enter Tryz.func18, Tryz.ntmps18
  go_wp2_with fail
  with_reducible refine CC.out.mono ?_
  rintro e w1 ⟨v, rfl, hO, hb1⟩
  have HO := Lib.hid (OwnI.low hO hb0.size)
  have hw1 := hb0.trans (hb1.mono hb0.size)
  clear hO hb0 hb1 CC
  go_wp2_with fail
  go_returns
  exact ⟨_, rfl, HO.out, hw1⟩
set_option maxRecDepth 100000 in
set_option maxHeartbeats 800000 in
theorem do_reverse (xs : List At) (n cc : Nat) (aa : Option Addr) (w : World)
    (hC : ∀ W, Below w.heap.size w W → Calls Tryz.prog 52 #[.agg #[.pointer none, .slice aa n cc], .string ⟨#[114, 101, 118, 101, 114, 115, 101]⟩] W fun e w' => ∃ v, e = .returned v ∧ OwnI W.heap.size w' v xs ∧ Below W.heap.size W w') :
    Calls Tryz.prog 18 #[.agg #[.pointer none, .slice aa n cc], .string ⟨#[114, 101, 118, 101, 114, 115, 101]⟩] w fun e w' => ∃ v, e = .returned v ∧ OwnI w.heap.size w' v xs ∧ Below w.heap.size w w' := by
  have hb0 : Below w.heap.size w (w.alloc (.cells #[.pointer none, .slice aa n cc] 51)) := (Below.refl _ _).alloc (Nat.le_refl _) _
  have CC := Lib.hid (hC _ hb0)
  clear hC
  go_enter Tryz.func18, Tryz.ntmps18
  go_wp2_with fail
  with_reducible refine CC.out.mono ?_
  rintro e w1 ⟨v, rfl, hO, hb1⟩
  have HO := Lib.hid (OwnI.low hO hb0.size)
  have hw1 := hb0.trans (hb1.mono hb0.size)
  clear hO hb0 hb1 CC
  go_wp2_with fail
  go_returns
  exact ⟨_, rfl, HO.out, hw1⟩
set_option maxRecDepth 100000 in
set_option maxHeartbeats 800000 in
theorem do_subsequence (xs : List At) (n cc : Nat) (aa : Option Addr) (w : World)
    (hC : ∀ W, Below w.heap.size w W → Calls Tryz.prog 52 #[.agg #[.pointer none, .slice aa n cc], .string ⟨#[115, 117, 98, 115, 101, 113, 117, 101, 110, 99, 101]⟩] W fun e w' => ∃ v, e = .returned v ∧ OwnI W.heap.size w' v xs ∧ Below W.heap.size W w') :
    Calls Tryz.prog 18 #[.agg #[.pointer none, .slice aa n cc], .string ⟨#[115, 117, 98, 115, 101, 113, 117, 101, 110, 99, 101]⟩] w fun e w' => ∃ v, e = .returned v ∧ OwnI w.heap.size w' v xs ∧ Below w.heap.size w w' := by
  have hb0 : Below w.heap.size w (w.alloc (.cells #[.pointer none, .slice aa n cc] 51)) := (Below.refl _ _).alloc (Nat.le_refl _) _
  have CC := Lib.hid (hC _ hb0)
  clear hC
  go_enter Tryz.func18, Tryz.ntmps18
  go_wp2_with fail
  with_reducible refine CC.out.mono ?_
  rintro e w1 ⟨v, rfl, hO, hb1⟩
  have HO := Lib.hid (OwnI.low hO hb0.size)
  have hw1 := hb0.trans (hb1.mono hb0.size)
  clear hO hb0 hb1 CC
  go_wp2_with fail
  go_returns
  exact ⟨_, rfl, HO.out, hw1⟩
set_option maxRecDepth 100000 in
set_option maxHeartbeats 800000 in
theorem do_sum (xs : List At) (n cc : Nat) (aa : Option Addr) (w : World)
    (hC : ∀ W, Below w.heap.size w W → Calls Tryz.prog 40 #[.agg #[.pointer none, .slice aa n cc]] W fun e w' => ∃ v, e = .returned v ∧ OwnI W.heap.size w' v xs ∧ Below W.heap.size W w') :
    Calls Tryz.prog 18 #[.agg #[.pointer none, .slice aa n cc], .string ⟨#[115, 117, 109]⟩] w fun e w' => ∃ v, e = .returned v ∧ OwnI w.heap.size w' v xs ∧ Below w.heap.size w w' := by
  have hb0 : Below w.heap.size w (w.alloc (.cells #[.pointer none, .slice aa n cc] 51)) := (Below.refl _ _).alloc (Nat.le_refl _) _
  have CC := Lib.hid (hC _ hb0)
  clear hC
  go_enter Tryz.func18, Tryz.ntmps18
  go_wp2_with fail
  with_reducible refine CC.out.mono ?_
  rintro e w1 ⟨v, rfl, hO, hb1⟩
  have HO := Lib.hid (OwnI.low hO hb0.size)
  have hw1 := hb0.trans (hb1.mono hb0.size)
  clear hO hb0 hb1 CC
  go_wp2_with fail
  go_returns
  exact ⟨_, rfl, HO.out, hw1⟩
set_option maxRecDepth 100000 in
set_option maxHeartbeats 800000 in
theorem do_max (xs : List At) (n cc : Nat) (aa : Option Addr) (w : World)
    (hC : ∀ W, Below w.heap.size w W → Calls Tryz.prog 45 #[.agg #[.pointer none, .slice aa n cc], .int .i64 1] W fun e w' => ∃ v, e = .returned v ∧ OwnI W.heap.size w' v xs ∧ Below W.heap.size W w') :
    Calls Tryz.prog 18 #[.agg #[.pointer none, .slice aa n cc], .string ⟨#[109, 97, 120]⟩] w fun e w' => ∃ v, e = .returned v ∧ OwnI w.heap.size w' v xs ∧ Below w.heap.size w w' := by
  have hb0 : Below w.heap.size w (w.alloc (.cells #[.pointer none, .slice aa n cc] 51)) := (Below.refl _ _).alloc (Nat.le_refl _) _
  have CC := Lib.hid (hC _ hb0)
  clear hC
  go_enter Tryz.func18, Tryz.ntmps18
  go_wp2_with fail
  with_reducible refine CC.out.mono ?_
  rintro e w1 ⟨v, rfl, hO, hb1⟩
  have HO := Lib.hid (OwnI.low hO hb0.size)
  have hw1 := hb0.trans (hb1.mono hb0.size)
  clear hO hb0 hb1 CC
  go_wp2_with fail
  go_returns
  exact ⟨_, rfl, HO.out, hw1⟩
end Go.Proofs.YtfagfkfcokmclaaGreatDoor
