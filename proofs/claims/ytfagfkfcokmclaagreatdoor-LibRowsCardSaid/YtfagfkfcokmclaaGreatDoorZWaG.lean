/- Right numbers: what the two ways to ask answer; a number that can be reckoned with. -/
import Derived.Test.YtfagfkfcokmclaaGreatDoorZWaB
set_option linter.unusedSimpArgs false
set_option linter.unusedVariables false
namespace Go.Proofs.YtfagfkfcokmclaaGreatDoor
open Go.RowKit

theorem rightF_ref (n s : Int) : rightF n s = (decide (-999999999999999999 ≤ n) && (decide (n ≤ 999999999999999999) && (decide (0 ≤ s) && (decide (s ≤ 9) && ((s == 0) || (n.tmod 10 != 0)))))) := by
  have hd : ∀ a b : Int, decide (a < b) = !decide (b ≤ a) := fun a b => by
    by_cases h : b ≤ a
    · rw [decide_eq_true h, decide_eq_false (by omega)]; rfl
    · rw [decide_eq_false h, decide_eq_true (by omega)]; rfl
  have h1 := hd n (-999999999999999999)
  have h2 := hd 999999999999999999 n
  have h3 := hd s 0
  have h4 := hd 9 s
  unfold rightF
  rw [h1, h2, h3, h4, bne]
  by_cases g3 : 0 ≤ s
  · have h5 : decide (0 < s) = !(s == 0) := by
      by_cases h : s = 0
      · subst h; rfl
      · rw [decide_eq_true (by omega), beq_eq_false_iff_ne.2 h]; rfl
    rw [h5]
    cases decide (-999999999999999999 ≤ n) <;> cases decide (n ≤ 999999999999999999) <;> cases decide (0 ≤ s) <;> cases decide (s ≤ 9) <;> cases (s == 0) <;> cases (n.tmod 10 == 0) <;> rfl
  · rw [decide_eq_false g3]
    cases decide (-999999999999999999 ≤ n) <;> cases decide (n ≤ 999999999999999999) <;> cases decide (s ≤ 9) <;> first | rfl | simp
set_option maxHeartbeats 1000000 in
theorem ref_right_any (n s : Int) (w : World) : Calls Tryz.prog 16 #[.int .i64 n, .int .i64 s] w fun e w' => e = .returned (.bool (rightF n s)) ∧ w' = w := by
  rw [rightF_ref]
  cases e1 : decide (-999999999999999999 ≤ n)
  · go_enter Tryz.func16, Tryz.ntmps16
    go_wp2_with fail
    go_returns
    exact ⟨by simp [e1], rfl⟩
  · cases e2 : decide (n ≤ 999999999999999999)
    · go_enter Tryz.func16, Tryz.ntmps16
      go_wp2_with fail
      go_returns
      exact ⟨by simp [e1, e2], rfl⟩
    · cases e3 : decide (0 ≤ s)
      · go_enter Tryz.func16, Tryz.ntmps16
        go_wp2_with fail
        go_returns
        exact ⟨by simp [e1, e2, e3], rfl⟩
      · cases e4 : decide (s ≤ 9)
        · go_enter Tryz.func16, Tryz.ntmps16
          go_wp2_with fail
          go_returns
          exact ⟨by simp [e1, e2, e3, e4], rfl⟩
        · cases e5 : (s == 0)
          · cases e6 : (n.tmod 10 != 0)
            · go_enter Tryz.func16, Tryz.ntmps16
              go_wp2_with fail
              go_returns
              exact ⟨by simp [e1, e2, e3, e4, e5, e6], rfl⟩
            · go_enter Tryz.func16, Tryz.ntmps16
              go_wp2_with fail
              go_returns
              exact ⟨by simp [e1, e2, e3, e4, e5, e6], rfl⟩
          · go_enter Tryz.func16, Tryz.ntmps16
            go_wp2_with fail
            go_returns
            exact ⟨by simp [e1, e2, e3, e4, e5], rfl⟩

/-- A row of numbers in memory. -/
def NRow (w : World) (a : Option Addr) (xs : List (Int × Int)) : Prop := xs = [] ∨ ∃ b, a = some ⟨b, 0, none⟩ ∧ b < w.heap.size ∧ ∀ j n s, xs[j]? = some (n, s) → w.cell? ⟨b, j * 2, none⟩ = some (.int .i64 n) ∧ w.cell? ⟨b, j * 2 + 1, none⟩ = some (.int .i64 s)
theorem all_take_succ (p : Int × Int → Bool) (xs : List (Int × Int)) (j : Nat) (x : Int × Int) (h : xs[j]? = some x) : (xs.take (j + 1)).all p = ((xs.take j).all p && p x) := by
  rw [List.take_add_one, h]
  simp
theorem hfalse (xs : List (Int × Int)) (x : Int × Int) (j : Nat) (h : xs[j]? = some x) (hx : rightF x.1 x.2 = false) : xs.all (fun x => rightF x.1 x.2) = false := by
  rw [List.all_eq_false]
  exact ⟨x, List.mem_of_getElem? h, by simp [hx]⟩
set_option maxHeartbeats 2000000 in
theorem right_any (a : Option Addr) (c : Nat) (xs : List (Int × Int)) (w : World) (hR : NRow w a xs) (hl : xs.length ≤ 1000000) : Calls Tryz.prog 183 #[.slice a xs.length c] w fun e w' => e = .returned (.bool (xs.all fun x => rightF x.1 x.2)) ∧ Below w.heap.size w w' := by
  have HR := Lib.hid hR
  clear hR
  go_enter Tryz.func183, Tryz.ntmps183
  go_wp2_with fail
  go_loopg [7] (xs.length + 1) (fun m jj wr => ∃ j : Nat, j ≤ xs.length ∧ m + j = xs.length + 1 ∧ jj = .int .i64 (j : Int) ∧ Below w.heap.size w wr ∧ (xs.take j).all (fun x => rightF x.1 x.2) = true)
  case atStart => exact ⟨0, by omega, by omega, rfl, Below.refl _ _, rfl⟩
  case round =>
    obtain ⟨j, hj, hmj, rfl, hw, hall⟩ := hrel
    have HALL := Lib.hid hall
    clear hall
    by_cases hlt : j < xs.length
    · obtain ⟨⟨n, s⟩, hjx⟩ : ∃ x, xs[j]? = some x := ⟨xs[j], by simp [hlt]⟩
      have HJ := Lib.hid hjx
      rcases HR.out with h0 | ⟨b, rfl, hb, hc⟩
      · rw [h0] at hlt; simp at hlt
      obtain ⟨x0, x1⟩ := hc j n s hjx
      have y0 := hw.cell (p := ⟨b, j * 2, none⟩) hb
      have y1 := hw.cell (p := ⟨b, j * 2 + 1, none⟩) hb
      rw [x0] at y0
      rw [x1] at y1
      clear x0 x1 hc
      have i0 : decide ((j : Int) < (xs.length : Int)) = true := by simp; omega
      cases e1 : decide (n < -999999999999999999)
      · cases e2 : decide (999999999999999999 < n)
        · cases e3 : decide (s < 0)
          · cases e4 : decide (9 < s)
            · cases e5 : decide (0 < s)
              · have hx : rightF n s = true := by unfold rightF; simp only [e1, e2, e3, e4, e5]; rfl
                have HX := Lib.hid hx
                clear hx
                go_wp2_with fail
                go_roundg (gk - 1)
                case measure => omega
                case rel => exact ⟨j + 1, by omega, by omega, by go_num, hw.alloc hw.size _, by rw [all_take_succ _ _ _ _ HJ.out, HALL.out, HX.out]; rfl⟩
              · cases e6 : (n.tmod 10 == 0)
                · have hx : rightF n s = true := by unfold rightF; simp only [e1, e2, e3, e4, e5, e6]; rfl
                  have HX := Lib.hid hx
                  clear hx
                  go_wp2_with fail
                  go_roundg (gk - 1)
                  case measure => omega
                  case rel => exact ⟨j + 1, by omega, by omega, by go_num, hw.alloc hw.size _, by rw [all_take_succ _ _ _ _ HJ.out, HALL.out, HX.out]; rfl⟩
                · have hx : rightF n s = false := by unfold rightF; simp only [e1, e2, e3, e4, e5, e6]; rfl
                  have HX := Lib.hid hx
                  clear hx
                  go_wp2_with fail
                  go_returns
                  refine ⟨?_, ?_⟩
                  · rw [hfalse _ _ j hjx HX.out]
                    rfl
                  · go_grown
                    all_goals first | exact hw | exact hw.size
            · have hx : rightF n s = false := by unfold rightF; simp only [e1, e2, e3, e4]; rfl
              have HX := Lib.hid hx
              clear hx
              go_wp2_with fail
              go_returns
              refine ⟨?_, ?_⟩
              · rw [hfalse _ _ j hjx HX.out]
                rfl
              · go_grown
                all_goals first | exact hw | exact hw.size
          · have hx : rightF n s = false := by unfold rightF; simp only [e1, e2, e3]; rfl
            have HX := Lib.hid hx
            clear hx
            go_wp2_with fail
            go_returns
            refine ⟨?_, ?_⟩
            · rw [hfalse _ _ j hjx HX.out]
              rfl
            · go_grown
              all_goals first | exact hw | exact hw.size
        · have hx : rightF n s = false := by unfold rightF; simp only [e1, e2]; rfl
          have HX := Lib.hid hx
          clear hx
          go_wp2_with fail
          go_returns
          refine ⟨?_, ?_⟩
          · rw [hfalse _ _ j hjx HX.out]
            rfl
          · go_grown
            all_goals first | exact hw | exact hw.size
      · have hx : rightF n s = false := by unfold rightF; simp only [e1]; rfl
        have HX := Lib.hid hx
        clear hx
        go_wp2_with fail
        go_returns
        refine ⟨?_, ?_⟩
        · rw [hfalse _ _ j hjx HX.out]
          rfl
        · go_grown
          all_goals first | exact hw | exact hw.size
    · have hje : j = xs.length := by omega
      subst hje
      have hall := HALL.out
      rw [List.take_length] at hall
      go_wp2_with fail
      go_ret
      exact ⟨by rw [hall]; rfl, hw⟩


/-- A number that can be reckoned with. -/
def cleanN (n s : Int) : Int := if rightF n s then n else 0
def cleanS (n s : Int) : Int := if rightF n s then s else 0
theorem NRow.one {w : World} {b : Nat} {n s : Int} {t : TypeId} (h : Blk w b #[.int .i64 n, .int .i64 s] t) : NRow w (some ⟨b, 0, none⟩) [(n, s)] := by
  refine .inr ⟨b, rfl, h.lt, fun j x y hx => ?_⟩
  cases j with
  | zero =>
    simp at hx
    obtain ⟨rfl, rfl⟩ := hx
    exact ⟨h.cell 0, h.cell 1⟩
  | succ j => simp at hx
theorem right_one (b : Nat) (n s : Int) (w : World) (t : TypeId) (h : Blk w b #[.int .i64 n, .int .i64 s] t) : Calls Tryz.prog 183 #[.slice (some ⟨b, 0, none⟩) 1 1] w fun e w' => e = .returned (.bool (rightF n s)) ∧ Below w.heap.size w w' := by
  have := right_any _ 1 [(n, s)] w (NRow.one h) (by simp)
  simpa using this
set_option maxHeartbeats 1000000 in
theorem clean_any (n s : Int) (w : World) : Calls Tryz.prog 135 #[.agg #[.int .i64 n, .int .i64 s]] w fun e w' => e = .returned (.agg #[.int .i64 (cleanN n s), .int .i64 (cleanS n s)]) ∧ Below w.heap.size w w' := by
  unfold cleanN cleanS
  cases e : rightF n s
  all_goals
    go_enter Tryz.func135, Tryz.ntmps135
    go_wp2_with (go_at_call 183; refine (right_one _ n s _ 106 (Blk.here rfl (by simp))).mono ?_; rintro e' w1 ⟨rfl, hb⟩; rw [e]
                 have C0 : Blk w1 w.heap.size #[.int .i64 n, .int .i64 s] 106 := (Blk.alloc (Blk.alloc (Blk.here rfl rfl) _) _).below hb (by simp; omega)
                 have C1 : Blk w1 (w.heap.size + 1) #[.int .i64 0, .int .i64 0] 106 := (Blk.alloc (Blk.here rfl (by simp)) _).below hb (by simp)
                 have hw : Below w.heap.size w w1 := Below.trans (by go_grown) (hb.mono (by simp; omega))
                 obtain ⟨c00, c01, f00, f01⟩ := C0.two
                 obtain ⟨c10, c11, f10, f11⟩ := C1.two)
  · refine bodyPost_ret (v := .agg #[.int .i64 0, .int .i64 0]) (by simp [results, Tryz.results135, go_sem, c10, c11]) rfl ⟨rfl, ?_⟩
    go_grown
    all_goals first | exact hw | exact hw.size
  · refine bodyPost_ret (v := .agg #[.int .i64 n, .int .i64 s]) (by simp [results, Tryz.results135, go_sem, c10, c11]) rfl ⟨rfl, ?_⟩
    go_grown
    all_goals first | exact hw | exact hw.size
end Go.Proofs.YtfagfkfcokmclaaGreatDoor
