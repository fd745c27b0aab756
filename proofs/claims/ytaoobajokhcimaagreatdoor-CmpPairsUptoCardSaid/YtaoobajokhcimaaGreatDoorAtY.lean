/- The document's trimming of a text. -/
import Derived.Test.YtaoobajokhcimaaGreatDoorMgB
set_option linter.unusedSimpArgs false
set_option linter.unusedVariables false
set_option linter.constructorNameAsVariable false
namespace Go.Proofs.YtaoobajokhcimaaGreatDoor
open Go.RowKit

/-- Is the byte a space? -/
def spF (c : Int) : Bool := c == 9 || c == 10 || c == 13 || c == 32
theorem spF_sp (c : UInt8) : spF (c.toNat : Int) = spS.contains c := by
  have : ∀ n : Fin 256, spF ((UInt8.ofNat n.val).toNat : Int) = spS.contains (UInt8.ofNat n.val) := by decide +kernel
  have h := this ⟨c.toNat, c.toNat_lt⟩
  simpa only [UInt8.ofNat_toNat] using h
theorem space_any (c : Int) (w : World) : Calls Tryz.prog 85 #[.int .u8 c] w fun e w' => e = .returned (.bool (spF c)) ∧ w = w' := by
  unfold spF
  cases e1 : (c == 9)
  · cases e2 : (c == 10)
    · cases e3 : (c == 13)
      · go_enter Tryz.func85, Tryz.ntmps85
        go_wp2
        go_ret
        exact ⟨by simp [e1, e2, e3], rfl⟩
      · go_enter Tryz.func85, Tryz.ntmps85
        go_wp2
        go_ret
        exact ⟨by simp [e1, e2, e3], rfl⟩
    · go_enter Tryz.func85, Tryz.ntmps85
      go_wp2
      go_ret
      exact ⟨by simp [e1, e2], rfl⟩
  · go_enter Tryz.func85, Tryz.ntmps85
    go_wp2
    go_ret
    exact ⟨by simp [e1], rfl⟩

theorem dropw_at {p : UInt8 → Bool} : ∀ (l : List UInt8) (i : Nat), (l.take i).all p = true → (∀ c, l[i]? = some c → p c = false) → l.dropWhile p = l.drop i
  | [], _, _, _ => by simp
  | a :: l, 0, _, h => by
    rw [List.dropWhile_cons, h a rfl]
    rfl
  | a :: l, i + 1, h, h' => by
    rw [List.take_succ_cons, List.all_cons, Bool.and_eq_true] at h
    rw [List.dropWhile_cons, h.1]
    exact dropw_at l i h.2 h'
theorem all_snoc {p : UInt8 → Bool} {l : List UInt8} {i : Nat} {c : UInt8} (h : (l.take i).all p = true) (hc : l[i]? = some c) (hp : p c = true) : (l.take (i + 1)).all p = true := by
  rw [List.take_add_one, hc, List.all_append, h]
  simp [hp]
theorem all_cons' {p : UInt8 → Bool} {l : List UInt8} {i : Nat} {c : UInt8} (h : (l.drop (i + 1)).all p = true) (hc : l[i]? = some c) (hp : p c = true) : (l.drop i).all p = true := by
  have hi : i < l.length := by
    rcases Nat.lt_or_ge i l.length with h' | h'
    · exact h'
    · simp [List.getElem?_eq_none h'] at hc
  rw [List.getElem?_eq_getElem hi] at hc
  rw [List.drop_eq_getElem_cons hi, List.all_cons, h, Option.some.inj hc, hp]
  rfl
/-- What is left, where i and j are found. -/
theorem trim_at (l : List UInt8) (i j : Nat) (hij : i ≤ j) (hj : j ≤ l.length) (h1 : (l.take i).all (fun x => spS.contains x) = true) (h2 : i < j → ∀ c, l[i]? = some c → spS.contains c = false)
    (h3 : (l.drop j).all (fun x => spS.contains x) = true) (h4 : i < j → ∀ c, l[j - 1]? = some c → spS.contains c = false) : Lib.trimS l spS = (l.take j).drop i := by
  show Lib.trimLeftS (Lib.trimRightS l spS) spS = _
  rw [trim_comm]
  unfold Lib.trimLeftS Lib.trimRightS
  by_cases e : i = j
  · subst e
    have hall : l.all (fun x => spS.contains x) = true := by
      rw [← List.take_append_drop i l, List.all_append, h1, h3]
      rfl
    rw [(dropWhile_nil _ l).2 hall]
    simp
  · rw [dropw_at l i h1 (h2 (by omega))]
    have hm : (l.drop i).reverse.dropWhile (fun x => spS.contains x) = (l.drop i).reverse.drop (l.length - j) := by
      refine dropw_at _ _ ?_ ?_
      · rw [List.take_reverse, List.all_reverse, List.length_drop, List.drop_drop, show i + (l.length - i - (l.length - j)) = j by omega]
        exact h3
      · intro c hc
        rw [List.getElem?_reverse (by simp; omega)] at hc
        rw [List.getElem?_drop, List.length_drop, show i + (l.length - i - 1 - (l.length - j)) = j - 1 by omega] at hc
        exact h4 (by omega) c hc
    rw [hm, List.drop_reverse, List.reverse_reverse, List.length_drop, List.drop_take, show l.length - i - (l.length - j) = j - i by omega]

theorem t_at (t : ByteArray) (i : Nat) (h : i < t.size) : t.data.toList[i]? = some (t[i]'h) := by
  have h' : i < t.data.toList.length := by simpa using h
  rw [List.getElem?_eq_getElem h']
  rfl
theorem cut_bs (t : ByteArray) (i j : Nat) : bs ((t.data.toList.take j).drop i) = t.extract i j := by
  apply ByteArray.ext
  apply Array.toList_inj.1
  rw [ByteArray.data_extract, Array.toList_extract, List.extract_eq_take_drop, ← List.drop_take]
  rfl
set_option maxRecDepth 100000 in
set_option maxHeartbeats 1000000 in
theorem rtrim_any (t : ByteArray) (ht : t.size ≤ 9223372036854775000) (w : World) : Calls Tryz.prog 55 #[.string t] w fun e w' => e = .returned (.string (bs (trimT t))) ∧ w = w' := by
  have hlen : t.data.toList.length = t.size := by simp
  go_enter Tryz.func55, Tryz.ntmps55
  go_wp2_with fail
  go_loopg [3] t.size (fun m iv wr => ∃ i : Nat, m + i = t.size ∧ iv = .int .i64 (i : Int) ∧ (t.data.toList.take i).all (fun x => spS.contains x) = true ∧ w = wr)
  case atStart => exact ⟨0, by omega, rfl, by simp, rfl⟩
  case round =>
    obtain ⟨i, hm, rfl, hA, rfl⟩ := hrel
    have HA := Lib.hid hA
    clear hA
    have hi0 : (0 : Int) ≤ (i : Int) := Int.natCast_nonneg _
    have j3 : IntKind.i64.wrap ((i : Int) + 1) = (i : Int) + 1 := IntWalk.i64_in _ (by omega)
    -- GEN
    by_cases hlt : i < t.size
    · have d0 : decide ((i : Int) < (t.size : Int)) = true := by simp; omega
      have hci := t_at t i hlt
      have hsp := spF_sp (t[i]'hlt)
      have CS := Lib.hid (fun w => space_any ((t[i]'hlt).toNat : Int) w)
      cases es : spF ((t[i]'hlt).toNat : Int)
      · rw [es] at CS hsp
        have HI := Lib.hid (show ∀ c, t.data.toList[i]? = some c → spS.contains c = false from fun c hc => by rw [hci] at hc; cases hc; exact hsp.symm)
        clear hsp hci
        go_wp2_with (go_at_call 85; with_reducible refine (CS.out _).mono ?_; rintro e w2 ⟨rfl, rfl⟩)
        clear CS es
        go_loopg [4] t.size (fun m jv wr => ∃ j : Nat, j = m ∧ i ≤ j ∧ j ≤ t.size ∧ jv = .int .i64 (j : Int) ∧ (t.data.toList.drop j).all (fun x => spS.contains x) = true ∧ w = wr)
        case atStart => exact ⟨t.size, rfl, by omega, Nat.le_refl _, rfl, by rw [List.drop_eq_nil_of_le (by omega)]; rfl, rfl⟩
        case round =>
          obtain ⟨j, rfl, hij, hj, rfl, hB, rfl⟩ := hrel
          have HB := Lib.hid hB
          clear hB
          have hj0 : (0 : Int) ≤ (j : Int) := Int.natCast_nonneg _
          by_cases hij2 : i < j
          · have e9 : ((j - 1 : Nat) : Int) = (j : Int) - 1 := by omega
            have j4 : IntKind.i64.wrap ((j : Int) - 1) = ((j - 1 : Nat) : Int) := by rw [e9]; exact IntWalk.i64_in _ (by omega)
            have d1 : decide ((i : Int) < (j : Int)) = true := by simp; omega
            have hjt : j - 1 < t.size := by omega
            have hcj := t_at t (j - 1) hjt
            have hsp := spF_sp (t[j - 1]'hjt)
            have CS := Lib.hid (fun w => space_any ((t[j - 1]'hjt).toNat : Int) w)
            cases es2 : spF ((t[j - 1]'hjt).toNat : Int)
            · rw [es2] at CS hsp
              have HF : Hid (bs (trimT t) = t.extract i j) := by
                unfold Hid
                rw [show bs (trimT t) = bs ((t.data.toList.take j).drop i) from congrArg bs (trim_at _ i j hij (by omega) HA.out (fun _ => HI.out) HB.out (fun _ c hc => by rw [hcj] at hc; cases hc; exact hsp.symm))]
                exact cut_bs t i j
              clear hsp hcj HA HI HB
              go_wp2_with (go_at_call 85; with_reducible refine (CS.out _).mono ?_; rintro e w2 ⟨rfl, rfl⟩)
              go_ret
              exact ⟨by rw [HF.out]; rfl, rfl⟩
            · rw [es2] at CS hsp
              have HB2 := Lib.hid (all_cons' (p := fun x => spS.contains x) (i := j - 1) (by rw [show j - 1 + 1 = j by omega]; exact HB.out) hcj hsp.symm)
              clear hsp hcj
              go_wp2_with (go_at_call 85; with_reducible refine (CS.out _).mono ?_; rintro e w2 ⟨rfl, rfl⟩)
              go_roundg (j - 1)
              case measure => omega
              case rel => exact ⟨j - 1, rfl, by omega, by omega, by go_num, HB2.out, rfl⟩
          · have hji : j = i := by omega
            subst hji
            have HF : Hid (bs (trimT t) = ByteArray.empty) := by
              unfold Hid
              rw [show bs (trimT t) = bs ((t.data.toList.take j).drop j) from congrArg bs (trim_at _ j j hij (by omega) HA.out (fun h => by omega) HB.out (fun h => by omega)), List.drop_eq_nil_of_le (by simp; omega)]
              rfl
            clear HA HI HB
            go_wp2_with fail
            go_ret
            exact ⟨by rw [HF.out]; rfl, rfl⟩
      · rw [es] at CS hsp
        have HA2 := Lib.hid (all_snoc (p := fun x => spS.contains x) HA.out hci hsp.symm)
        clear hsp hci
        go_wp2_with (go_at_call 85; with_reducible refine (CS.out _).mono ?_; rintro e w2 ⟨rfl, rfl⟩)
        go_roundg (gk - 1)
        case measure => omega
        case rel => exact ⟨i + 1, by omega, by go_num, HA2.out, rfl⟩
    · have hit : i = t.size := by omega
      have HI := Lib.hid (show ∀ c, t.data.toList[i]? = some c → spS.contains c = false from fun c hc => by rw [List.getElem?_eq_none (by omega)] at hc; cases hc)
      go_wp2_with fail
      go_loopg [4] t.size (fun m jv wr => ∃ j : Nat, j = m ∧ i ≤ j ∧ j ≤ t.size ∧ jv = .int .i64 (j : Int) ∧ (t.data.toList.drop j).all (fun x => spS.contains x) = true ∧ w = wr)
      case atStart => exact ⟨t.size, rfl, by omega, Nat.le_refl _, rfl, by rw [List.drop_eq_nil_of_le (by omega)]; rfl, rfl⟩
      case round =>
        obtain ⟨j, rfl, hij, hj, rfl, hB, rfl⟩ := hrel
        have HB := Lib.hid hB
        clear hB
        have hj0 : (0 : Int) ≤ (j : Int) := Int.natCast_nonneg _
        by_cases hij2 : i < j
        · exfalso; omega
        · have hji : j = i := by omega
          subst hji
          have HF : Hid (bs (trimT t) = ByteArray.empty) := by
            unfold Hid
            rw [show bs (trimT t) = bs ((t.data.toList.take j).drop j) from congrArg bs (trim_at _ j j hij (by omega) HA.out (fun h => by omega) HB.out (fun h => by omega)), List.drop_eq_nil_of_le (by simp; omega)]
            rfl
          clear HA HI HB
          go_wp2_with fail
          go_ret
          exact ⟨by rw [HF.out]; rfl, rfl⟩
end Go.Proofs.YtaoobajokhcimaaGreatDoor
