/- The document's Few and count. -/
import Derived.Test.YtgdbbocfiejlfaaDoorDpC
import Derived.Deep.QuietTactic
import Derived.BigQuiet
set_option linter.unusedSimpArgs false
set_option linter.unusedVariables false
set_option linter.constructorNameAsVariable false
namespace Go.Proofs.YtgdbbocfiejlfaaDoor
open Go.RowKit

set_option maxRecDepth 100000 in
set_option maxHeartbeats 2000000 in
theorem few_any (h : Nat) (most : Int) (a : Option Addr) (c : Nat) (ts : List (Tr h)) (w : World) (hT : TRowT h w a ts) (hl : ts.length ≤ 9223372036854775807) (m0 : 0 ≤ most) (m4 : most ≤ 400) :
    Calls Tryd.prog 13 #[.int .i64 most, .slice a ts.length c] w fun e w' => e = .returned (.bool (fewF h most ts)) ∧ Below w.heap.size w w' := by
  have HK := Lib.hid hT
  obtain ⟨RES, hR⟩ : ∃ r, kidsP (partsF h) ts most = r := ⟨_, rfl⟩
  unfold fewF
  rw [hR]
  have HR := Lib.hid hR
  clear hR hT
  go_enter Tryd.func13, Tryd.ntmps13
  go_wp2_with fail
  go_loopg [5, 6] (ts.length + 1) (fun m ll ii wr => ∃ (j : Nat) (q : Int), j ≤ ts.length ∧ m + j = ts.length + 1 ∧ ii = .int .i64 (j : Int) ∧ ll = .int .i64 q ∧ q ≤ 400 ∧ Below w.heap.size w wr ∧ Hid (kidsP (partsF h) (ts.drop j) q = RES))
  case atStart => exact ⟨0, _, by omega, by omega, rfl, rfl, by omega, Below.refl _ _, by unfold Hid; rw [List.drop_zero]; exact HR.out⟩
  case round =>
    obtain ⟨j, q, hj, hmj, rfl, rfl, hq4, hwr, HD⟩ := hrel
    have hj0 : (0 : Int) ≤ (j : Int) := Int.natCast_nonneg _
    by_cases hlt : j < ts.length
    · have i0 : decide ((j : Int) < (ts.length : Int)) = true := by simp; omega
      obtain ⟨x, hjx⟩ : ∃ x, ts[j]? = some x := ⟨ts[j], by simp [hlt]⟩
      have hd := HD.out
      rw [kdrop hjx] at hd
      unfold kidsP at hd
      by_cases hq0 : q < 0
      · have i1 : decide ((0 : Int) ≤ q) = false := by simp; omega
        rw [if_pos hq0] at hd
        subst hd
        clear HD hjx HR
        go_wp2_with fail
        go_returns
        exact ⟨by simp only [i1]; rfl, hwr⟩
      · have i1 : decide ((0 : Int) ≤ q) = true := by simp; omega
        rw [if_neg hq0] at hd
        have HD2 := Lib.hid hd
        rcases HK.out with h0 | ⟨b, o, rfl, hb, -, hc⟩
        · rw [h0] at hlt; simp at hlt
        obtain ⟨c0, c1, c2, c3, c4, u0, u1, u2, u3, u4, hx⟩ := hc j x hjx
        have CX := Lib.hid (parts_any h All x _ wr q (hx.on hwr) (by omega) hq4)
        have hle := partsF_le h x q
        replace u0 := (hwr.cell (p := ⟨b, o + j * 5, none⟩) hb).trans u0
        replace u1 := (hwr.cell (p := ⟨b, o + j * 5 + 1, none⟩) hb).trans u1
        replace u2 := (hwr.cell (p := ⟨b, o + j * 5 + 2, none⟩) hb).trans u2
        replace u3 := (hwr.cell (p := ⟨b, o + j * 5 + 3, none⟩) hb).trans u3
        replace u4 := (hwr.cell (p := ⟨b, o + j * 5 + 4, none⟩) hb).trans u4
        have lb := Nat.lt_of_lt_of_le hb hwr.size
        clear HD hd hc hx hjx
        generalize partsF h x q = pq at *
        go_wp2_with (go_at_call 23; with_reducible refine CX.out.mono ?_; rintro e w5 ⟨rfl, hb5⟩
                     have hw5 := hwr.trans (hb5.mono hwr.size)
                     clear hb5 CX)
        go_roundg (gk - 1)
        case measure => omega
        case rel => exact ⟨j + 1, pq, by omega, by omega, by go_num, rfl, by omega, hw5, HD2⟩
    · have i0 : decide ((j : Int) < (ts.length : Int)) = false := by simp; omega
      have hd := HD.out
      rw [List.drop_eq_nil_of_le (by omega)] at hd
      replace hd : q = RES := hd
      subst hd
      clear HD HR
      go_wp2_with fail
      go_returns
      exact ⟨rfl, hwr⟩
theorem Blk.two2 {w : World} {b : Nat} {x y : Value} {t : TypeId} (h : Blk w b #[x, y] t) :
    (w.cell? ⟨b, 0, none⟩ = some x ∧ w.cell? ⟨b, 1, none⟩ = some y) ∧ w.frozen? ⟨b, 0, none⟩ = false ∧ w.frozen? ⟨b, 1, none⟩ = false :=
  ⟨⟨h.cell 0, h.cell 1⟩, h.free 0, h.free 1⟩
theorem tl_eq {s t : ByteArray} : s.toList = t.toList ↔ s = t := by
  rw [Lib.toList_data, Lib.toList_data]
  exact ⟨fun h => ByteArray.ext (Array.ext' h), fun h => by rw [h]⟩
theorem take_one {α : Type} (xs : List α) (j : Nat) (x : α) (h : xs[j]? = some x) : xs.take (j + 1) = xs.take j ++ [x] := by
  rw [List.take_add_one, h]
  rfl
set_option maxRecDepth 100000 in
set_option maxHeartbeats 2000000 in
theorem count_any (a : Option Addr) (c : Nat) (ps : List Pr) (p : Pr) (S : Nat → Prop) (w : World) (hP : PRow S w a ps) (hl : ps.length ≤ 9223372036854775807) :
    Calls Tryd.prog 18 #[.slice a ps.length c, .agg #[.string p.1, .string p.2]] w fun e w' => e = .returned (.int .i64 (ps.count p : Nat)) ∧ Below w.heap.size w w' := by
  obtain ⟨s, t⟩ := p
  have HK := Lib.hid hP
  obtain ⟨P0, hP0⟩ : ∃ r : Pr, r = (s, t) := ⟨_, rfl⟩
  have HP0 := Lib.hid hP0
  show Calls Tryd.prog 18 #[.slice a ps.length c, .agg #[.string s, .string t]] w _
  rw [show List.count (s, t) ps = List.count P0 ps by rw [hP0]]
  clear hP hP0
  go_enter Tryd.func18, Tryd.ntmps18
  go_wp2_with fail
  have B9 : Blk (w.alloc (.cells #[.string s, .string t] 33)) w.heap.size #[.string s, .string t] 33 := Blk.new _ _ _
  have hw1 : Below w.heap.size w (w.alloc (.cells #[.string s, .string t] 33)) := (Below.refl _ _).alloc (Nat.le_refl _) _
  generalize w.alloc (.cells #[.string s, .string t] 33) = W at *
  have kB := B9.lt
  go_loopg [5, 6] (ps.length + 1) (fun m nn ii wr => ∃ (j n : Nat), j ≤ ps.length ∧ m + j = ps.length + 1 ∧ ii = .int .i64 (j : Int) ∧ nn = .int .i64 (n : Int) ∧ n ≤ j ∧ Below W.heap.size W wr ∧ Hid ((ps.take j).count P0 = n))
  case atStart => exact ⟨0, 0, by omega, by omega, rfl, rfl, by omega, Below.refl _ _, rfl⟩
  case round =>
    obtain ⟨j, n, hj, hmj, rfl, rfl, hnj, hbr, HD⟩ := hrel
    have hj0 : (0 : Int) ≤ (j : Int) := Int.natCast_nonneg _
    have n3 : IntKind.i64.wrap ((n : Int) + 1) = (n : Int) + 1 ∨ j = ps.length := by
      rcases Nat.lt_or_ge j ps.length with h | h
      · exact .inl (IntWalk.i64_in _ (by omega))
      · exact .inr (by omega)
    have hwr := hw1.trans (hbr.mono hw1.size)
    have B := B9.below hbr B9.lt
    obtain ⟨⟨q0, q1⟩, -⟩ := B.two2
    have kq := B.lt
    by_cases hlt : j < ps.length
    · have i0 : decide ((j : Int) < (ps.length : Int)) = true := by simp; omega
      obtain ⟨x, hjx⟩ : ∃ x, ps[j]? = some x := ⟨ps[j], by simp [hlt]⟩
      have n4 : IntKind.i64.wrap ((n : Int) + 1) = (n : Int) + 1 := by
        rcases n3 with h | h
        · exact h
        · omega
      rcases HK.out with h0 | ⟨b, o, rfl, hb, -, hc⟩
      · rw [h0] at hlt; simp at hlt
      obtain ⟨u0, u1⟩ := hc j x hjx
      replace u0 := (hwr.cell (p := ⟨b, o + j * 2, none⟩) hb).trans u0
      replace u1 := (hwr.cell (p := ⟨b, o + j * 2 + 1, none⟩) hb).trans u1
      have lb := Nat.lt_of_lt_of_le hb hwr.size
      have hd := HD.out
      have hstep : (ps.take (j + 1)).count P0 = n + (if x = P0 then 1 else 0) := by
        rw [take_one ps j x hjx, List.count_append, hd, List.count_singleton]
        by_cases e : x = P0
        · simp [e]
        · simp [e]
      rw [HP0.out] at hstep
      clear hc hjx HD hd n3
      obtain ⟨xs, xt⟩ := x
      simp only at u0 u1
      by_cases e1 : xs.toList = s.toList
      · by_cases e2 : xt.toList = t.toList
        · have hs2 : (ps.take (j + 1)).count P0 = n + 1 := by
            rw [HP0.out, hstep, if_pos (by rw [tl_eq.1 e1, tl_eq.1 e2])]
          have HS := Lib.hid hs2
          clear hs2 hstep
          go_wp2_with fail
          go_quiet (fail)
          go_wp2_with fail
          go_roundg (gk - 1)
          case measure => omega
          case rel => exact ⟨j + 1, n + 1, by omega, by omega, by go_num, by go_num, by omega, below_drewN hbr nq, HS⟩
        · have hs2 : (ps.take (j + 1)).count P0 = n := by
            rw [HP0.out, hstep, if_neg (fun h => e2 (by rw [(Prod.mk.inj h).2]))]
            rfl
          have HS := Lib.hid hs2
          clear hs2 hstep
          go_wp2_with fail
          go_quiet (fail)
          go_wp2_with fail
          go_roundg (gk - 1)
          case measure => omega
          case rel => exact ⟨j + 1, n, by omega, by omega, by go_num, rfl, by omega, below_drewN hbr nq, HS⟩
      · have hs2 : (ps.take (j + 1)).count P0 = n := by
          rw [HP0.out, hstep, if_neg (fun h => e1 (by rw [(Prod.mk.inj h).1]))]
          rfl
        have HS := Lib.hid hs2
        clear hs2 hstep
        go_wp2_with fail
        go_quiet (fail)
        go_wp2_with fail
        go_roundg (gk - 1)
        case measure => omega
        case rel => exact ⟨j + 1, n, by omega, by omega, by go_num, rfl, by omega, below_drewN hbr nq, HS⟩
    · have i0 : decide ((j : Int) < (ps.length : Int)) = false := by simp; omega
      have hd := HD.out
      rw [List.take_of_length_le (by omega)] at hd
      subst hd
      clear HD n3
      go_wp2_with fail
      go_returns
      exact ⟨rfl, hwr⟩
end Go.Proofs.YtgdbbocfiejlfaaDoor
