/- slices.EqualFunc of two rows of trees. -/
import Derived.Test.YtgdbbocfiejlfaaDoorDpE
set_option linter.unusedSimpArgs false
set_option linter.unusedVariables false
set_option linter.constructorNameAsVariable false
namespace Go.Proofs.YtgdbbocfiejlfaaDoor
open Go.RowKit

theorem TLies.shape {S : Nat → Prop} {h : Nat} {w : World} {t : Tr h} {c0 c1 c2 c3 c4 : Value} (H : TLies S h w t #[c0, c1, c2, c3, c4]) : ∃ k n v aa la ca ka lk ck, c0 = .int .i64 k ∧ c1 = .string n ∧ c2 = .string v ∧ c3 = .slice aa la ca ∧ c4 = .slice ka lk ck := by
  cases h with
  | zero => exact nomatch t
  | succ h =>
    obtain ⟨aa, ca, ka, ck, H⟩ := H
    have e := H.cells
    simp only [Array.mk.injEq, List.cons.injEq, and_true] at e
    obtain ⟨rfl, rfl, rfl, rfl, rfl⟩ := e
    exact ⟨_, _, _, _, _, _, _, _, _, rfl, rfl, rfl, rfl, rfl⟩
set_option maxRecDepth 100000 in
set_option maxHeartbeats 4000000 in
theorem equalfunc_any (h : Nat) (f : Tr h → Tr h → Bool) (a b : Option Addr) (c d : Nat) (xs ys : List (Tr h)) (w : World) (hX : TRowT h w a xs) (hY : TRowT h w b ys) (lx : xs.length ≤ 9223372036854775807) (ly : ys.length ≤ 9223372036854775807)
    (hF : ∀ x ∈ xs, ∀ y ∈ ys, ∀ cx cy w', TLies All h w' x cx → TLies All h w' y cy → Calls Tryd.prog 8 #[.agg cx, .agg cy] w' fun e w'' => e = .returned (.bool (f x y)) ∧ Below w'.heap.size w' w'') :
    Calls Tryd.prog 16 #[.slice a xs.length c, .slice b ys.length d, .func (.func 8) #[] #[]] w fun e w' => e = .returned (.bool (listF f xs ys)) ∧ Below w.heap.size w w' := by
  have HX := Lib.hid hX
  have HY := Lib.hid hY
  have HF := Lib.hid hF
  obtain ⟨nx, hnx⟩ : ∃ nx, xs.length = nx := ⟨_, rfl⟩
  obtain ⟨ny, hny⟩ : ∃ ny, ys.length = ny := ⟨_, rfl⟩
  rw [hnx] at lx
  rw [hny] at ly
  rw [hnx, hny]
  have HNX := Lib.hid hnx
  have HNY := Lib.hid hny
  obtain ⟨RES, hR⟩ : ∃ r, listF f xs ys = r := ⟨_, rfl⟩
  rw [hR]
  have HR := Lib.hid hR
  clear hX hY hF hnx hny hR
  by_cases hlen : nx = ny
  · subst hlen
    go_enter Tryd.func16, Tryd.ntmps16
    go_wp2_with fail
    go_loopg [17] (nx + 1) (fun m jj wr => ∃ j : Nat, j ≤ nx ∧ m + j = nx + 1 ∧ jj = .int .i64 (j : Int) ∧ Below w.heap.size w wr ∧ Hid (listF f (xs.drop j) (ys.drop j) = RES))
    case atStart => exact ⟨0, by omega, by omega, rfl, Below.refl _ _, by unfold Hid; rw [List.drop_zero, List.drop_zero]; exact HR.out⟩
    case round =>
      obtain ⟨j, hj, hmj, rfl, hwr, HD⟩ := hrel
      have hj0 : (0 : Int) ≤ (j : Int) := Int.natCast_nonneg _
      by_cases hlt : j < nx
      · have i0 : decide ((j : Int) < (nx : Int)) = true := by simp; omega
        have i6 : (j : Int) < (nx : Int) := by omega
        obtain ⟨p, hjp⟩ : ∃ p, xs[j]? = some p := ⟨xs[j]'(by rw [HNX.out]; exact hlt), by simp⟩
        obtain ⟨q, hjq⟩ : ∃ q, ys[j]? = some q := ⟨ys[j]'(by rw [HNY.out]; exact hlt), by simp⟩
        have hd := HD.out
        rw [kdrop hjp, kdrop hjq] at hd
        replace hd : (f p q && listF f (xs.drop (j + 1)) (ys.drop (j + 1))) = RES := hd
        rcases HX.out with h0 | ⟨b1, o1, rfl, hb1, -, hc1⟩
        · have := HNX.out; rw [h0] at this; simp at this; omega
        rcases HY.out with h0 | ⟨b2, o2, rfl, hb2, -, hc2⟩
        · have := HNY.out; rw [h0] at this; simp at this; omega
        obtain ⟨c0, c1, c2, c3, c4, u0, u1, u2, u3, u4, hx⟩ := hc1 j p hjp
        obtain ⟨d0, d1, d2, d3, d4, v0, v1, v2, v3, v4, hy⟩ := hc2 j q hjq
        have CX := Lib.hid (fun w' (hb : Below wr.heap.size wr w') => HF.out p (List.mem_of_getElem? hjp) q (List.mem_of_getElem? hjq) _ _ w' ((hx.on hwr).on hb) ((hy.on hwr).on hb))
        replace u0 := (hwr.cell (p := ⟨b1, o1 + j * 5, none⟩) hb1).trans u0
        replace u1 := (hwr.cell (p := ⟨b1, o1 + j * 5 + 1, none⟩) hb1).trans u1
        replace u2 := (hwr.cell (p := ⟨b1, o1 + j * 5 + 2, none⟩) hb1).trans u2
        replace u3 := (hwr.cell (p := ⟨b1, o1 + j * 5 + 3, none⟩) hb1).trans u3
        replace u4 := (hwr.cell (p := ⟨b1, o1 + j * 5 + 4, none⟩) hb1).trans u4
        replace v0 := (hwr.cell (p := ⟨b2, o2 + j * 5, none⟩) hb2).trans v0
        replace v1 := (hwr.cell (p := ⟨b2, o2 + j * 5 + 1, none⟩) hb2).trans v1
        replace v2 := (hwr.cell (p := ⟨b2, o2 + j * 5 + 2, none⟩) hb2).trans v2
        replace v3 := (hwr.cell (p := ⟨b2, o2 + j * 5 + 3, none⟩) hb2).trans v3
        replace v4 := (hwr.cell (p := ⟨b2, o2 + j * 5 + 4, none⟩) hb2).trans v4
        have lb1 := Nat.lt_of_lt_of_le hb1 hwr.size
        have lb2 := Nat.lt_of_lt_of_le hb2 hwr.size
        obtain ⟨k1, n1, v1', aa1, la1, ca1, ka1, lk1, ck1, rfl, rfl, rfl, rfl, rfl⟩ := hx.shape
        obtain ⟨k2, n2, v2', aa2, la2, ca2, ka2, lk2, ck2, rfl, rfl, rfl, rfl, rfl⟩ := hy.shape
        obtain ⟨rr, hrr⟩ : ∃ rr, f p q = rr := ⟨_, rfl⟩
        rw [hrr] at CX hd
        cases rr
        · replace hd : false = RES := hd
          subst hd
          clear HD hc1 hc2 hx hy hjp hjq hrr
          go_wp2_with (go_at_call 8; with_reducible refine (CX.out _ (((Below.refl _ _).alloc (Nat.le_refl _) _).alloc (by simp) _)).mono ?_; rintro e w5 ⟨rfl, hb5⟩
                       have hw5 : Below w.heap.size w w5 := ((hwr.alloc hwr.size _).alloc (by have := hwr.size; simp; omega) _).trans (hb5.mono (by have := hwr.size; simp; omega)))
          go_returns
          exact ⟨rfl, hw5⟩
        · have HD2 := Lib.hid (show listF f (xs.drop (j + 1)) (ys.drop (j + 1)) = RES from hd)
          clear HD hc1 hc2 hx hy hjp hjq hrr hd
          go_wp2_with (go_at_call 8; with_reducible refine (CX.out _ (((Below.refl _ _).alloc (Nat.le_refl _) _).alloc (by simp) _)).mono ?_; rintro e w5 ⟨rfl, hb5⟩
                       have hw5 : Below w.heap.size w w5 := ((hwr.alloc hwr.size _).alloc (by have := hwr.size; simp; omega) _).trans (hb5.mono (by have := hwr.size; simp; omega)))
          go_roundg (gk - 1)
          case measure => omega
          case rel => exact ⟨j + 1, by omega, by omega, by go_num, hw5, HD2⟩
      · have i0 : decide ((j : Int) < (nx : Int)) = false := by simp; omega
        have hd := HD.out
        rw [List.drop_eq_nil_of_le (by rw [HNX.out]; omega), List.drop_eq_nil_of_le (by rw [HNY.out]; omega)] at hd
        replace hd : true = RES := hd
        subst hd
        clear HD HR
        go_wp2_with fail
        go_returns
        exact ⟨rfl, hwr⟩
  · have i5 : ((nx : Int) != (ny : Int)) = true := by simp; omega
    have hr := HR.out
    rw [listF_len _ _ _ (by rw [HNX.out, HNY.out]; exact hlen)] at hr
    subst hr
    clear HR
    go_enter Tryd.func16, Tryd.ntmps16
    go_wp2_with fail
    go_returns
    exact ⟨rfl, Below.refl _ _⟩
end Go.Proofs.YtgdbbocfiejlfaaDoor
