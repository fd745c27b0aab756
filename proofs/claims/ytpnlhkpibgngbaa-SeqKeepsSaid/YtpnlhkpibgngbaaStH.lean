/- The document's Order (function 31), and that it's the one row so ordered. -/
import Derived.Test.YtpnlhkpibgngbaaStG
set_option linter.unusedSimpArgs false
set_option linter.unusedVariables false
namespace Go.Proofs.Ytpnlhkpibgngbaa
open Go.RowKit Go.Sort Go.Proofs

theorem key_bd (n : Int) (down : Bool) (x : Int) (h : 1 ≤ n) : -n < key n down x ∧ key n down x < n := by
  have := tmod_bd x n h
  unfold key
  cases down <;> simp <;> omega
/-- A row in order by the key: those below t + 1 are those below t and then those at t. -/
theorem srt_split (κ : Int → Int) (t : Int) : ∀ ys : List Int, ys.Pairwise (fun a b => κ a ≤ κ b) → ys.filter (fun x => decide (κ x < t + 1)) = ys.filter (fun x => decide (κ x < t)) ++ filt κ t ys
  | [], _ => rfl
  | y :: ys, h => by
    rw [List.pairwise_cons] at h
    have ih := srt_split κ t ys h.2
    unfold filt at *
    by_cases h1 : κ y < t
    · have e1 : decide (κ y < t + 1) = true := by simp; omega
      have e2 : decide (κ y < t) = true := by simpa using h1
      have e3 : (κ y == t) = false := by simp; omega
      simp only [List.filter, e1, e2, e3, List.cons_append]
      rw [ih]
    · have e2 : decide (κ y < t) = false := by simpa using h1
      have e4 : ys.filter (fun x => decide (κ x < t)) = [] := by
        rw [List.filter_eq_nil_iff]
        intro a ha
        have := h.1 a ha
        simp; omega
      rw [e4] at ih
      by_cases h3 : κ y = t
      · have e1 : decide (κ y < t + 1) = true := by simp; omega
        have e3 : (κ y == t) = true := by simpa using h3
        simp only [List.filter, e1, e2, e3, e4]
        rw [ih]; simp
      · have e1 : decide (κ y < t + 1) = false := by simp; omega
        have e3 : (κ y == t) = false := by simpa using h3
        simp only [List.filter, e1, e2, e3, e4]
        rw [ih]
/-- The first m rounds of the document's Order. -/
def ordF (n : Int) (down : Bool) (xs : List Int) (m : Nat) : List Int := (List.range m).flatMap fun (k : Nat) => filt (key n down) (1 - n + (k : Int)) xs
theorem ordF_next (n : Int) (down : Bool) (xs : List Int) (m : Nat) : ordF n down xs (m + 1) = ordF n down xs m ++ filt (key n down) (1 - n + (m : Int)) xs := by
  unfold ordF
  rw [List.range_succ, List.flatMap_append]
  simp
theorem ordF_len (n : Int) (down : Bool) (xs : List Int) (m : Nat) : (ordF n down xs m).length ≤ m * xs.length := by
  induction m with
  | zero => simp [ordF]
  | succ m ih =>
    have h1 : (filt (key n down) (1 - n + (m : Int)) xs).length ≤ xs.length := List.length_filter_le _ _
    rw [ordF_next, List.length_append, Nat.add_mul]
    omega
theorem ordF_below (n : Int) (down : Bool) (ys : List Int) (h : 1 ≤ n) (hs : ys.Pairwise (fun a b => key n down a ≤ key n down b)) (m : Nat) : ordF n down ys m = ys.filter (fun x => decide (key n down x < 1 - n + (m : Int))) := by
  induction m with
  | zero =>
    symm
    show List.filter _ _ = _
    rw [show ordF n down ys 0 = [] from rfl]
    rw [List.filter_eq_nil_iff]
    intro a _
    have := key_bd n down a h
    simp; omega
  | succ m ih => rw [ordF_next, ih, ← srt_split _ _ _ hs, show 1 - n + (m : Int) + 1 = 1 - n + ((m + 1 : Nat) : Int) by omega]
/-- The ordered row is the document's. -/
theorem ordd_eq {n : Int} {down : Bool} {xs ys : List Int} (h1 : 1 ≤ n) (h : Ordd (key n down) xs ys) : ys = ordF n down xs (2 * n - 1).toNat := by
  have hs : ys.Pairwise (fun a b => key n down a ≤ key n down b) := by
    rw [List.pairwise_iff_getElem]
    intro i j hi hj hij
    have := h.ord i j (Nat.zero_le _) hij hj
    simpa [hi, hj] using this
  have e : ordF n down xs (2 * n - 1).toNat = ordF n down ys (2 * n - 1).toNat := by
    unfold ordF
    congr 1
    funext k
    exact (h.fil _).symm
  rw [e, ordF_below n down ys h1 hs]
  symm
  rw [List.filter_eq_self]
  intro a _
  have := key_bd n down a h1
  simp; omega
theorem filt_next (κ : Int → Int) (r : Int) {xs : List Int} {j : Nat} {x : Int} (h : xs[j]? = some x) : filt κ r (xs.take (j + 1)) = filt κ r (xs.take j) ++ (if κ x == r then [x] else []) := by
  rw [List.take_add_one, filt_append, h]
  congr 1
  unfold filt
  cases hk : (κ x == r) <;> simp [List.filter, hk]

set_option maxRecDepth 100000 in
set_option maxHeartbeats 4000000 in
theorem rorder_any (a : Option Addr) (c : Nat) (xs : List Int) (n : Int) (down : Bool) (w : World) (h : IRow w a xs.length xs) (hx : xs.length ≤ 1000) (h1 : 1 ≤ n) (h7 : n ≤ 7) :
    Calls Try.prog 31 #[.slice a xs.length c, .int .i64 n, .bool down] w (Own (ordF n down xs (2 * n - 1).toNat) w) := by
  have A := Lib.hid h
  clear h
  have hn : n ≠ 0 := by omega
  have hn2 : n ≠ -1 := by omega
  obtain ⟨M, hM⟩ : ∃ M : Nat, (M : Int) = 2 * n - 1 := ⟨(2 * n - 1).toNat, by omega⟩
  have HM : Hid ((2 * n - 1).toNat = M) := by show _ = _; omega
  rw [HM.out]
  go_enter Try.func31, Try.ntmps31
  go_wp2_with fail
  go_loopg [7, 8] (M + 1) (fun m v rr wr => ∃ k : Nat, k ≤ M ∧ m + k = M + 1 ∧ rr = .int .i64 (1 - n + (k : Int)) ∧ Below w.heap.size w wr ∧ ORow wr w.heap.size v (ordF n down xs k))
  case atStart => exact ⟨0, Nat.zero_le _, by omega, by go_num, Below.refl _ _, ORow.nil _ _⟩
  case round =>
    obtain ⟨k, hk, hmk, rfl, hw, hown⟩ := hrel
    have H := Lib.hid hown
    clear hown
    by_cases hlt : k < M
    · have i1 : 1 - n + (k : Int) < n := by omega
      obtain ⟨go, hgo⟩ : ∃ go, go = gk := ⟨_, rfl⟩
      obtain ⟨wo, hwo⟩ : ∃ wo : World, wo = wr := ⟨_, rfl⟩
      have HL : Hid ((ordF n down xs k).length ≤ 13 * 1000) := by
        show _ ≤ _
        have h1 := ordF_len n down xs k
        have : k * xs.length ≤ 13 * 1000 := Nat.mul_le_mul (by omega) hx
        omega
      have HK := Lib.hid (ordF_next n down xs k)
      obtain ⟨r, hr⟩ : ∃ r : Int, r = 1 - n + (k : Int) := ⟨_, rfl⟩
      rw [← hr] at HK i1 ⊢
      have HR := Lib.hid hr
      clear hr
      have i9 : -7 ≤ r := by have := HR.out; omega
      have i8 : r ≤ 7 := by omega
      cases down
      · have HB : Hid (∀ x : Int, (key n false x == r) = (x.tmod n == r)) := fun x => by simp [key]
        go_wp2_with fail
        go_loopg [7, 10] (xs.length + 1) (fun m v jj wr => ∃ j : Nat, j ≤ xs.length ∧ m + j = xs.length + 1 ∧ jj = .int .i64 j ∧ Below w.heap.size w wr ∧ ORow wr w.heap.size v (ordF n false xs k ++ filt (key n false) r (xs.take j)))
        case atStart => exact ⟨0, Nat.zero_le _, by omega, rfl, hw, by simpa [filt] using H.out⟩
        case round =>
          obtain ⟨j, hj, hmj, rfl, hwr, hown⟩ := hrel
          have H2 := Lib.hid hown
          clear hown
          have hfl : (filt (key n false) r (xs.take j)).length ≤ 1000 := by
            have h1 : (filt (key n false) r (xs.take j)).length ≤ (xs.take j).length := List.length_filter_le _ _
            have h2 := List.length_take_le j xs
            omega
          by_cases hlj : j < xs.length
          · obtain ⟨x, hx'⟩ : ∃ x, xs[j]? = some x := ⟨xs[j], by simp [hlj]⟩
            have HE := Lib.hid (filt_next (key n false) r hx')
            obtain ⟨b1, q1, rfl, lb1, hx1⟩ := A.out.2.2 (by omega)
            have zx : wr.cell? ⟨b1, q1 + j, none⟩ = some (.int .i64 x) := by rw [hwr.cell (p := ⟨b1, q1 + j, none⟩) lb1]; exact hx1 j x hx'
            clear hx1 hx'
            have j0 : (0 : Int) ≤ (j : Int) := Int.natCast_nonneg _
            have j1 : (j : Int) < (xs.length : Int) := by omega
            have HBx := Lib.hid (HB.out x)
            cases ht : (x.tmod n == r)
            · go_wp2_with fail
              go_roundg (gk - 1)
              case measure => omega
              case rel =>
                go_light
                refine ⟨j + 1, by omega, by omega, by go_num, hwr, ?_⟩
                rw [HE.out, HBx.out, ht]
                simpa using H2.out
            · go_wp2_with (at_builtin; refine wpList_app rfl _ _ rfl w.heap.size _ _ [x] rfl (H2.out.below ((Below.refl _ _).alloc (Nat.le_refl _) (.cells #[.int .i64 x] 3)) (Nat.le_refl _)) (some ⟨wr.heap.size, 0, none⟩) 1 1 rfl (irow1S _ _ _) (fun h => by cases h) ?c1 ?c2 ?_)
              case c1 => have := HL.out; simp; omega
              case c2 => have := hwr.size; simp; omega
              intro v' w2 hO2 hb2
              have O2 := Lib.hid hO2
              clear hO2
              go_wp2_with fail
              go_roundg (gk - 1)
              case measure => omega
              case rel =>
                go_light
                refine ⟨j + 1, by omega, by omega, by go_num, (hwr.alloc hwr.size _).trans hb2, ?_⟩
                rw [HE.out, HBx.out, ht, if_pos rfl]
                exact O2.out
          · have hfull : xs.take j = xs := List.take_of_length_le (by omega)
            have j1 : ¬ (j : Int) < (xs.length : Int) := by omega
            rw [hfull] at H2
            clear hfull
            go_wp2_with fail
            go_roundg (go - 1)
            case measure => omega
            case rel =>
              go_light
              refine ⟨k + 1, by omega, by omega, by rw [HR.out]; go_num, hwr, ?_⟩
              rw [HK.out]
              exact H2.out
      · have HB : Hid (∀ x : Int, (key n true x == r) = (x.tmod n == -r)) := fun x => by simp only [key]; rw [Bool.eq_iff_iff]; simp; omega
        go_wp2_with fail
        go_loopg [7, 10] (xs.length + 1) (fun m v jj wr => ∃ j : Nat, j ≤ xs.length ∧ m + j = xs.length + 1 ∧ jj = .int .i64 j ∧ Below w.heap.size w wr ∧ ORow wr w.heap.size v (ordF n true xs k ++ filt (key n true) r (xs.take j)))
        case atStart => exact ⟨0, Nat.zero_le _, by omega, rfl, hw, by simpa [filt] using H.out⟩
        case round =>
          obtain ⟨j, hj, hmj, rfl, hwr, hown⟩ := hrel
          have H2 := Lib.hid hown
          clear hown
          have hfl : (filt (key n true) r (xs.take j)).length ≤ 1000 := by
            have h1 : (filt (key n true) r (xs.take j)).length ≤ (xs.take j).length := List.length_filter_le _ _
            have h2 := List.length_take_le j xs
            omega
          by_cases hlj : j < xs.length
          · obtain ⟨x, hx'⟩ : ∃ x, xs[j]? = some x := ⟨xs[j], by simp [hlj]⟩
            have HE := Lib.hid (filt_next (key n true) r hx')
            obtain ⟨b1, q1, rfl, lb1, hx1⟩ := A.out.2.2 (by omega)
            have zx : wr.cell? ⟨b1, q1 + j, none⟩ = some (.int .i64 x) := by rw [hwr.cell (p := ⟨b1, q1 + j, none⟩) lb1]; exact hx1 j x hx'
            clear hx1 hx'
            have j0 : (0 : Int) ≤ (j : Int) := Int.natCast_nonneg _
            have j1 : (j : Int) < (xs.length : Int) := by omega
            have HBx := Lib.hid (HB.out x)
            cases ht : (x.tmod n == -r)
            · go_wp2_with fail
              go_roundg (gk - 1)
              case measure => omega
              case rel =>
                go_light
                refine ⟨j + 1, by omega, by omega, by go_num, hwr, ?_⟩
                rw [HE.out, HBx.out, ht]
                simpa using H2.out
            · go_wp2_with (at_builtin; refine wpList_app rfl _ _ rfl w.heap.size _ _ [x] rfl (H2.out.below ((Below.refl _ _).alloc (Nat.le_refl _) (.cells #[.int .i64 x] 3)) (Nat.le_refl _)) (some ⟨wr.heap.size, 0, none⟩) 1 1 rfl (irow1S _ _ _) (fun h => by cases h) ?c1 ?c2 ?_)
              case c1 => have := HL.out; simp; omega
              case c2 => have := hwr.size; simp; omega
              intro v' w2 hO2 hb2
              have O2 := Lib.hid hO2
              clear hO2
              go_wp2_with fail
              go_roundg (gk - 1)
              case measure => omega
              case rel =>
                go_light
                refine ⟨j + 1, by omega, by omega, by go_num, (hwr.alloc hwr.size _).trans hb2, ?_⟩
                rw [HE.out, HBx.out, ht, if_pos rfl]
                exact O2.out
          · have hfull : xs.take j = xs := List.take_of_length_le (by omega)
            have j1 : ¬ (j : Int) < (xs.length : Int) := by omega
            rw [hfull] at H2
            clear hfull
            go_wp2_with fail
            go_roundg (go - 1)
            case measure => omega
            case rel =>
              go_light
              refine ⟨k + 1, by omega, by omega, by rw [HR.out]; go_num, hwr, ?_⟩
              rw [HK.out]
              exact H2.out
    · have hkM : k = M := by omega
      have i1 : ¬ (1 - n + (k : Int) < n) := by omega
      rw [hkM] at H
      clear hkM
      go_wp2_with fail
      go_light
      go_ret
      exact ⟨_, rfl, H.out, hw⟩
end Go.Proofs.Ytpnlhkpibgngbaa
