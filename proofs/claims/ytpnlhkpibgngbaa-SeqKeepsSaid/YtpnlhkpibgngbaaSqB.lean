/- Seq's Reverse, Remove, Insert and Part at ints: what each returns, for every row of at most a million numbers. -/
import Derived.Test.YtpnlhkpibgngbaaSqA
set_option linter.unusedSimpArgs false
set_option linter.unusedVariables false
namespace Go.Proofs.Ytpnlhkpibgngbaa
open Go.RowKit Go.Sort

theorem seqrev_any (a : Option Addr) (n c : Nat) (xs : List Int) (w : World) (h : IRow w a n xs) (hn : n ≤ 1000000) : Calls Try.prog 18 #[.slice a n c] w (Own xs.reverse w) := by
  have HI := Lib.hid h
  clear h
  go_enter Try.func18, Try.ntmps18
  go_wp2_with fail
  refine (clone_any a n c xs w HI.out hn).mono ?_
  rintro e w1 ⟨v, rfl, hO, hb⟩
  have H := Lib.hid hO
  clear hO
  go_wp2_with fail
  refine (rev_own w1 w.heap.size v xs H.out hb.size).mono ?_
  rintro e w2 ⟨rfl, hO2, hb2⟩
  have H2 := Lib.hid hO2
  clear hO2
  go_wp2_with fail
  go_light
  go_ret
  exact ⟨v, rfl, H2.out, hb.trans hb2⟩

/-- Without the one at this place. -/
def remF (xs : List Int) (k : Int) : List Int := if k < 1 ∨ (xs.length : Int) < k then xs else cutF xs (k - 1).toNat
theorem seqrem_any (a : Option Addr) (n c : Nat) (k : Int) (xs : List Int) (w : World) (h : IRow w a n xs) (hn : n ≤ 1000000) : Calls Try.prog 19 #[.slice a n c, .int .i64 k] w (Own (remF xs k) w) := by
  obtain rfl := h.1
  have HI := Lib.hid h
  clear h
  go_enter Try.func19, Try.ntmps19
  go_wp2_with fail
  refine (clone_any a xs.length c xs w HI.out hn).mono ?_
  rintro e w1 ⟨v, rfl, hO, hb⟩
  have H := Lib.hid hO
  clear hO
  by_cases h1 : k < 1
  · have hr : remF xs k = xs := by rw [remF, if_pos (.inl h1)]
    have HR := Lib.hid hr
    clear hr
    go_wp2_with fail
    go_light
    go_ret
    exact ⟨v, rfl, by rw [HR.out]; exact H.out, hb⟩
  · by_cases h2 : (xs.length : Int) < k
    · have hr : remF xs k = xs := by rw [remF, if_pos (.inr h2)]
      have HR := Lib.hid hr
      clear hr
      go_wp2_with fail
      go_light
      go_ret
      exact ⟨v, rfl, by rw [HR.out]; exact H.out, hb⟩
    · have hr : remF xs k = cutF xs (k - 1).toNat := by rw [remF, if_neg (by omega)]
      obtain ⟨i, rfl⟩ : ∃ i : Nat, k = i + 1 := ⟨(k - 1).toNat, by omega⟩
      have hi : i < xs.length := by omega
      rw [show ((i : Int) + 1 - 1).toNat = i by omega] at hr
      have HR := Lib.hid hr
      clear hr
      have D := Lib.hid (del_own w1 w.heap.size v xs i H.out hb.size hi)
      rw [Int.natCast_add, Int.natCast_one] at D
      go_wp2_with fail
      refine D.out.mono ?_
      rintro e w2 ⟨v2, rfl, hO2, hb2⟩
      have H2 := Lib.hid hO2
      clear hO2
      go_wp2_with fail
      go_light
      go_ret
      exact ⟨v2, rfl, by rw [HR.out]; exact H2.out, hb.trans hb2⟩

/-- Where something is put in. -/
def plF (n : Nat) (k : Int) : Nat := if k < 1 then 0 else if (n : Int) + 1 < k then n else (k - 1).toNat
theorem plF_le (n : Nat) (k : Int) : plF n k ≤ n := by unfold plF; split <;> (try split) <;> omega
theorem seqins_any (a : Option Addr) (n c : Nat) (k : Int) (va : Option Addr) (m vc : Nat) (xs ys : List Int) (w : World) (h : IRow w a n xs) (hn : n ≤ 1000000) (hm : ys.length = m) (hm2 : m ≤ 1000000) (hv : PRow w w.heap.size va ys) :
    Calls Try.prog 20 #[.slice a n c, .int .i64 k, .slice va m vc] w (Own (putF xs ys (plF n k)) w) := by
  obtain rfl := h.1
  subst hm
  have HI := Lib.hid h
  have HV := Lib.hid hv
  clear h hv
  go_enter Try.func20, Try.ntmps20
  go_wp2_with fail
  refine (clone_any a xs.length c xs w HI.out hn).mono ?_
  rintro e w1 ⟨v, rfl, hO, hb⟩
  have HV1 : Hid (PRow w1 w.heap.size va ys) := fun h0 => by
    obtain ⟨vb, cur, h1, h2, h3, h4⟩ := HV.out h0
    exact ⟨vb, cur, h1, h2, by rw [hb.block vb h2, h3], h4⟩
  have D := Lib.hid (ins_own w1 w.heap.size v xs ys (plF xs.length k) va vc hO hb.size (plF_le _ _) hn hm2 HV1.out)
  clear hO HV HV1
  rw [show ((plF xs.length k : Nat) : Int) = min (max k 1) (↑xs.length + 1) - 1 by unfold plF; split <;> (try split) <;> omega] at D
  go_wp2_with fail
  refine D.out.mono ?_
  rintro e w2 ⟨v2, rfl, hO2, hb2⟩
  have H2 := Lib.hid hO2
  clear hO2
  go_wp2_with fail
  go_light
  go_ret
  exact ⟨v2, rfl, H2.out, hb.trans hb2⟩

/-- From one place to ahead of another. -/
def partF (xs : List Int) (f e : Int) : List Int := (xs.drop ((max f 1) - 1).toNat).take (min e ((xs.length : Int) + 1) - max f 1).toNat
theorem IRow.sub {w : World} {a : Option Addr} {n : Nat} {xs : List Int} (h : IRow w a n xs) (i k : Nat) (hk : i + k ≤ n) (h0 : 0 < k) : ∃ b o, a = some ⟨b, o, none⟩ ∧ IRow w (some ⟨b, o + i, none⟩) k ((xs.drop i).take k) := by
  obtain ⟨h1, h2, h3⟩ := h
  obtain ⟨b, o, rfl, hl, hc⟩ := h3 (by omega)
  refine ⟨b, o, rfl, by simp; omega, by omega, fun _ => ⟨b, o + i, rfl, hl, fun j x hx => ?_⟩⟩
  rw [Nat.add_assoc]
  refine hc (i + j) x ?_
  have hj : j < k := by
    rcases Nat.lt_or_ge j k with h | h
    · exact h
    · rw [List.getElem?_eq_none (by simp; omega)] at hx; cases hx
  rw [List.getElem?_take_of_lt hj, List.getElem?_drop] at hx
  exact hx
theorem seqpart_any (a : Option Addr) (n c : Nat) (f e : Int) (xs : List Int) (w : World) (h : IRow w a n xs) (hn : n ≤ 1000000) (hc : n ≤ c) (hf : -9223372036854775808 ≤ f) (he : e ≤ 9223372036854775807) :
    Calls Try.prog 21 #[.slice a n c, .int .i64 f, .int .i64 e] w (Own (partF xs f e) w) := by
  obtain rfl := h.1
  have HI := Lib.hid h
  by_cases h1 : min e (↑xs.length + 1) ≤ max f 1
  · have hp : partF xs f e = [] := by unfold partF; rw [show (min e (↑xs.length + 1) - max f 1).toNat = 0 by omega]; simp
    have HP := Lib.hid hp
    clear hp h
    go_enter Try.func21, Try.ntmps21
    go_wp2_with fail
    go_light
    go_ret
    exact ⟨_, rfl, by rw [HP.out]; exact ORow.nil _ _, Below.refl _ _⟩
  · obtain ⟨i, hi⟩ : ∃ i : Nat, max f 1 = i + 1 := ⟨(max f 1 - 1).toNat, by omega⟩
    obtain ⟨k, hk, hk0⟩ : ∃ k : Nat, min e (↑xs.length + 1) = i + 1 + k ∧ 0 < k := ⟨(min e (↑xs.length + 1) - max f 1).toNat, by omega, by omega⟩
    have hp : partF xs f e = (xs.drop i).take k := by unfold partF; rw [hk, hi, show ((i : Int) + 1 - 1).toNat = i by omega, show ((i : Int) + 1 + k - (i + 1)).toNat = k by omega]
    have HP := Lib.hid hp
    obtain ⟨b, o, rfl, hs⟩ := h.sub i k (by omega) hk0
    have C := Lib.hid (fun c' => clone_any (some ⟨b, o + i, none⟩) k c' _ w hs (by omega))
    clear hp h hs
    go_enter Try.func21, Try.ntmps21
    go_wp2_with fail
    refine (C.out _).mono ?_
    rintro e w1 ⟨v, rfl, hO, hb⟩
    have H := Lib.hid hO
    clear hO
    go_wp2_with fail
    go_light
    go_ret
    exact ⟨v, rfl, by rw [HP.out]; exact H.out, hb⟩
end Go.Proofs.Ytpnlhkpibgngbaa
