/- Rows of values; what the program says is right of them; casts that could be; the document's cast of a right value. -/
import Derived.Test.YtaoobajokhcimaaGreatDoorAtAa
import Derived.Test.YtaoobajokhcimaaGreatDoorAtZb
import Derived.Test.YtaoobajokhcimaaGreatDoorAtQ
set_option linter.unusedSimpArgs false
set_option linter.unusedVariables false
set_option linter.constructorNameAsVariable false
namespace Go.Proofs.YtaoobajokhcimaaGreatDoor
open Go.RowKit

/-- A row of values in memory. -/
def TRow (w : World) (a : Option Addr) (xs : List At) : Prop := xs = [] ∨ ∃ b o, a = some ⟨b, o, none⟩ ∧ b < w.heap.size ∧ ∀ j x, xs[j]? = some x →
  w.cell? ⟨b, o + j * 5, none⟩ = some (.int .i64 x.k) ∧ w.cell? ⟨b, o + j * 5 + 1, none⟩ = some (.int .i64 x.n) ∧ w.cell? ⟨b, o + j * 5 + 2, none⟩ = some (.int .i64 x.s) ∧ w.cell? ⟨b, o + j * 5 + 3, none⟩ = some (.string x.t) ∧ w.cell? ⟨b, o + j * 5 + 4, none⟩ = some (.bool x.b)
theorem TRow.on {w w' : World} {a : Option Addr} {xs : List At} (h : TRow w a xs) (hb : Below w.heap.size w w') : TRow w' a xs := by
  rcases h with h | ⟨b, o, rfl, hl, hc⟩
  · exact .inl h
  · refine .inr ⟨b, o, rfl, Nat.lt_of_lt_of_le hl hb.size, fun j x hj => ?_⟩
    obtain ⟨y0, y1, y2, y3, y4⟩ := hc j x hj
    exact ⟨(hb.cell (p := ⟨b, o + j * 5, none⟩) hl).trans y0, (hb.cell (p := ⟨b, o + j * 5 + 1, none⟩) hl).trans y1, (hb.cell (p := ⟨b, o + j * 5 + 2, none⟩) hl).trans y2, (hb.cell (p := ⟨b, o + j * 5 + 3, none⟩) hl).trans y3, (hb.cell (p := ⟨b, o + j * 5 + 4, none⟩) hl).trans y4⟩
theorem TRow.one {w : World} {q : Nat} {t : TypeId} {x : At} (h : Blk w q #[.int .i64 x.k, .int .i64 x.n, .int .i64 x.s, .string x.t, .bool x.b] t) : TRow w (some ⟨q, 0, none⟩) [x] := by
  refine .inr ⟨q, 0, rfl, h.lt, fun j y hj => ?_⟩
  cases j with
  | zero =>
    simp at hj
    subst hj
    exact ⟨h.cell 0, h.cell 1, h.cell 2, h.cell 3, h.cell 4⟩
  | succ j => simp at hj
theorem TRow.pair {w : World} {q : Nat} {t : TypeId} {x y : At} (h : Blk w q #[.int .i64 x.k, .int .i64 x.n, .int .i64 x.s, .string x.t, .bool x.b, .int .i64 y.k, .int .i64 y.n, .int .i64 y.s, .string y.t, .bool y.b] t) : TRow w (some ⟨q, 0, none⟩) [x, y] := by
  refine .inr ⟨q, 0, rfl, h.lt, fun j z hj => ?_⟩
  match j, hj with
  | 0, hj =>
    simp at hj
    subst hj
    exact ⟨h.cell 0, h.cell 1, h.cell 2, h.cell 3, h.cell 4⟩
  | 1, hj =>
    simp at hj
    subst hj
    exact ⟨h.cell 5, h.cell 6, h.cell 7, h.cell 8, h.cell 9⟩
  | j + 2, hj => simp at hj
theorem at_take (xs : List At) (y : At) (k : Nat) (h : xs[k]? = some y) (p : At → Bool) : (xs.take (k+1)).all p = ((xs.take k).all p && p y) := by
  rw [List.take_add_one, h]
  simp
theorem at_false (xs : List At) (x : At) (j : Nat) (h : xs[j]? = some x) (p : At → Bool) (hx : p x = false) : xs.all p = false := by
  rw [List.all_eq_false]
  exact ⟨x, List.mem_of_getElem? h, by simp [hx]⟩
set_option maxHeartbeats 2000000 in
theorem aright_any (a : Option Addr) (c : Nat) (xs : List At) (w : World) (hR : TRow w a xs) (hl : xs.length ≤ 1000000) (hs : ∀ x ∈ xs, x.t.size ≤ 9223372036854775807) (hT : U8T w) : Calls Tryz.prog 18 #[.slice a xs.length c] w fun e w' => e = .returned (.bool (xs.all rightA)) ∧ Below w.heap.size w w' := by
  have HR := Lib.hid hR
  have HS := Lib.hid hs
  have HT := Lib.hid (fun w' (hb : Below w.heap.size w w') => u8_on hT hb)
  clear hR hs hT
  go_enter Tryz.func18, Tryz.ntmps18
  go_wp2_with fail
  go_loopg [4, 7] (xs.length + 1) (fun m vv jj wr => ∃ j : Nat, j ≤ xs.length ∧ m + j = xs.length + 1 ∧ jj = .int .i64 (j : Int) ∧ Below w.heap.size w wr ∧ (xs.take j).all rightA = true)
  case atStart => exact ⟨0, by omega, by omega, rfl, Below.refl _ _, rfl⟩
  case round =>
    obtain ⟨j, hj, hmj, rfl, hw, hall⟩ := hrel
    have HALL := Lib.hid hall
    clear hall
    by_cases hlt : j < xs.length
    · obtain ⟨x, hjx⟩ : ∃ x, xs[j]? = some x := ⟨xs[j], by simp [hlt]⟩
      have HJ := Lib.hid hjx
      rcases HR.out with h0 | ⟨b, o, rfl, hb, hc⟩
      · rw [h0] at hlt; simp at hlt
      obtain ⟨x0, x1, x2, x3, x4⟩ := hc j x hjx
      have y0 := (hw.cell (p := ⟨b, o + j * 5, none⟩) hb).trans x0
      have y1 := (hw.cell (p := ⟨b, o + j * 5 + 1, none⟩) hb).trans x1
      have y2 := (hw.cell (p := ⟨b, o + j * 5 + 2, none⟩) hb).trans x2
      have y3 := (hw.cell (p := ⟨b, o + j * 5 + 3, none⟩) hb).trans x3
      have y4 := (hw.cell (p := ⟨b, o + j * 5 + 4, none⟩) hb).trans x4
      have hxs := HS.out x (List.mem_of_getElem? hjx)
      clear x0 x1 x2 x3 x4 hc hjx
      obtain ⟨k, n, s, t, bb⟩ := x
      simp only at y0 y1 y2 y3 y4 hxs
      have CX := Lib.hid (fun w' (hb : Below w.heap.size w w') => aright1_any k n s t bb hxs w' (HT.out w' hb))
      have i0 : decide ((j : Int) < (xs.length : Int)) = true := by simp; omega
      cases hx : rightA ⟨k, n, s, t, bb⟩
      · rw [hx] at CX
        have HX := Lib.hid hx
        clear hx
        go_wp2_with (first
          | (go_at_call 49; with_reducible refine (CX.out _ (hw.alloc hw.size _)).mono ?_; rintro e w1 ⟨rfl, hb1⟩
             have hw1 := (hw.alloc hw.size (.cells #[.int .i64 k, .int .i64 n, .int .i64 s, .string t, .bool bb] 24)).trans (hb1.mono (by have := hw.size; simp; omega))))
        go_returns
        exact ⟨by rw [at_false xs _ j HJ.out rightA HX.out]; rfl, hw1⟩
      · rw [hx] at CX
        have HX := Lib.hid hx
        clear hx
        go_wp2_with (first
          | (go_at_call 49; with_reducible refine (CX.out _ (hw.alloc hw.size _)).mono ?_; rintro e w1 ⟨rfl, hb1⟩
             have hw1 := (hw.alloc hw.size (.cells #[.int .i64 k, .int .i64 n, .int .i64 s, .string t, .bool bb] 24)).trans (hb1.mono (by have := hw.size; simp; omega))))
        go_roundg (gk - 1)
        case measure => omega
        case rel => exact ⟨j + 1, by omega, by omega, by go_num, hw1, by rw [at_take _ _ _ HJ.out, HALL.out, HX.out]; rfl⟩
    · have i0 : decide ((j : Int) < (xs.length : Int)) = false := by simp; omega
      have hf : xs.take j = xs := List.take_of_length_le (by omega)
      have HF : Hid (xs.all rightA = true) := by unfold Hid; rw [← HALL.out, hf]
      clear hf
      go_wp2_with fail
      go_returns
      exact ⟨by rw [HF.out]; rfl, hw⟩
theorem castable_any (a : At) (h : RA a) (ht : a.t.size ≤ 2000000) (tk : Int) (m : Int) (w : World) (hL : Laid m w) : Calls Tryz.prog 28 #[AV a, .int .i64 tk] w fun e w' =>
    e = .returned (.bool ((castF a tk).2 == 0)) ∧ Below w.heap.size w w' := by
  have CC := Lib.hid (fun w' (hb : Below w.heap.size w w') => cast_any a h ht tk m w' (hL.on hb))
  clear hL ht h
  obtain ⟨k, n, s, t, b⟩ := a
  obtain ⟨⟨xk, xn, xs, xt, xb⟩, r, hr⟩ : ∃ x r, castF ⟨k, n, s, t, b⟩ tk = (x, r) := ⟨_, _, rfl⟩
  rw [hr] at CC ⊢
  clear hr
  simp only at CC ⊢
  go_enter Tryz.func28, Tryz.ntmps28
  go_wp2_with (first
    | (go_at_call 14; with_reducible refine (CC.out _ (by go_grown)).mono ?_; rintro e w1 ⟨rfl, hb⟩
       have hw1 : Below w.heap.size w w1 := Below.trans (by go_grown) (hb.mono (by simp))))
  go_returns
  refine ⟨rfl, ?_⟩
  go_grown
  all_goals first | exact hw1 | exact hw1.size
theorem cast_size {a : At} (h : RA a) (tk : Int) : (castF a tk).1.t.size ≤ a.t.size + 40 := by
  have hT := text_size h
  have z : (zeroA).t.size ≤ a.t.size + 40 := by show (bs []).size ≤ _; rw [bs_size]; simp
  have hi : (toIntF a).1.t.size ≤ a.t.size + 40 := by
    unfold toIntF
    (repeat' split) <;> first | exact z | (show (bs []).size ≤ _; rw [bs_size]; simp)
  have hd : (toDecF a).1.t.size ≤ a.t.size + 40 := by
    unfold toDecF
    (repeat' split) <;> first | exact z | (show (bs []).size ≤ _; rw [bs_size]; simp)
  have hb : (toBoolF a).1.t.size ≤ a.t.size + 40 := by
    unfold toBoolF
    (repeat' split) <;> first | exact z | (show (bs []).size ≤ _; rw [bs_size]; simp)
  unfold castF
  split
  · exact z
  · split
    · show a.t.size ≤ _; omega
    · split
      · exact hi
      · split
        · exact hd
        · split
          · exact hb
          · split
            · exact hT
            · exact hT
theorem rcast_any (a : At) (h : RA a) (ht : a.t.size ≤ 2000000) (tk : Int) (w : World) : Calls Tryz.prog 27 #[AV a, .int .i64 tk] w fun e w' =>
    e = .returned (.tuple #[AV (castF a tk).1, .int .i64 (castF a tk).2]) ∧ Below w.heap.size w w' := by
  cases htk : (decide (tk < 1) || decide (6 ≤ tk))
  · cases ek : (a.k == tk)
    · have hc : castF a tk = if tk == 1 then toIntF a else if tk == 2 then toDecF a else if tk == 4 then toBoolF a else if tk == 3 then (textA (textF a), 0) else (rawA (textF a), 0) := by
        unfold castF
        rw [htk, ek]
        rfl
      have h5 : tk = 1 ∨ tk = 2 ∨ tk = 3 ∨ tk = 4 ∨ tk = 5 := by
        simp only [Bool.or_eq_false_iff, decide_eq_false_iff_not] at htk
        omega
      rcases h5 with rfl | rfl | rfl | rfl | rfl
      · rw [hc]
        cases h with
        | int n h => cases ek
        | dec n s h =>
          obtain ⟨s', rfl⟩ : ∃ s' : Nat, s = (s' : Int) := ⟨s.toNat, by have := h.s0; omega⟩
          exact rcast1_dec n s' h w
        | str t h => exact rcast1_text 3 0 0 t false (.inl rfl) ht w
        | bool b =>
          cases b
          · exact rcast1_bf w
          · exact rcast1_bt w
        | raw t h => exact rcast1_text 5 0 0 t false (.inr rfl) ht w
      · rw [hc]
        cases h with
        | int n h => exact rcast2_int n w
        | dec n s h => cases ek
        | str t h => exact rcast2_text 3 0 0 t false (.inl rfl) ht w
        | bool b =>
          cases b
          · exact rcast2_bf w
          · exact rcast2_bt w
        | raw t h => exact rcast2_text 5 0 0 t false (.inr rfl) ht w
      · rw [hc]
        exact rcast_3 _ _ _ _ _ ek _ w fun w' => rtext_any a h w'
      · rw [hc]
        refine rcast_4 _ _ _ _ _ ek (toBoolF a).1 (toBoolF a).2 w fun w' => ?_
        cases h with
        | int n h => exact rtoBool_num 1 n 0 (bs []) false (.inl rfl) w'
        | dec n s h => exact rtoBool_num 2 n s (bs []) false (.inr rfl) w'
        | str t h => exact rtoBool_text 3 0 0 t false (.inl rfl) ht w'
        | bool b => cases ek
        | raw t h => exact rtoBool_text 5 0 0 t false (.inr rfl) ht w'
      · rw [hc]
        exact rcast_5 _ _ _ _ _ ek _ w fun w' => rtext_any a h w'
    · have hk : a.k = tk := by simpa using ek
      subst hk
      have hc : castF a a.k = (a, 0) := by
        unfold castF
        rw [htk, ek]
        rfl
      rw [hc]
      exact rcast_same _ _ _ _ _ htk w
  · have hc : castF a tk = (zeroA, 2) := by
      unfold castF
      rw [htk]
      rfl
    rw [hc]
    exact rcast_arg _ _ _ _ _ tk htk w
end Go.Proofs.YtaoobajokhcimaaGreatDoor
