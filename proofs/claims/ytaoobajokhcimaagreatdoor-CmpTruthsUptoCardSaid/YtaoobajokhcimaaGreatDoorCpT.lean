/- CmpTruths: the document's Truth; the law's walk; its arguments. -/
import Derived.Test.YtaoobajokhcimaaGreatDoorCpH
import Derived.Test.YtaoobajokhcimaaGreatDoorCpJ
set_option linter.unusedSimpArgs false
set_option linter.unusedVariables false
set_option linter.constructorNameAsVariable false
namespace Go.Proofs.YtaoobajokhcimaaGreatDoor
open Go.ChangeShapes Go.WideShapes Go.ChangeAt Go.RowKit Go.Joins

theorem truth_RA {x : At} (h : RA x) : (x.b || x.t.toList != [] || x.n != 0) = if groupF x == 1 then x.n != 0 else if groupF x == 2 then x.t.toList != [] else x.b := by
  have e : (bs []).toList = [] := by rw [Lib.toList_data]; rfl
  cases h with
  | int n h => show (false || (bs []).toList != [] || n != 0) = (n != 0); rw [e]; simp
  | dec n s h => show (false || (bs []).toList != [] || n != 0) = (n != 0); rw [e]; simp
  | str t h => show (false || t.toList != [] || (0 : Int) != 0) = (t.toList != []); simp
  | bool b => show (b || (bs []).toList != [] || (0 : Int) != 0) = b; rw [e]; simp
  | raw t h => show (false || t.toList != [] || (0 : Int) != 0) = (t.toList != []); simp
set_option maxRecDepth 100000 in
theorem rtruth_any (first : Bool) (a : Option Addr) (c : Nat) (xs : List At) (w : World) (hR : TRow w a xs) (hl : xs.length ≤ 1152921504606846976) (hx : ∀ x ∈ xs, RA x) : Calls Tryz.prog 34 #[.bool first, .slice a xs.length c] w fun e w' => e = .returned (.tuple #[.bool (truthF first xs).1, .int .i64 (truthF first xs).2]) ∧ Below w.heap.size w w' := by
  unfold truthF
  cases first
  · simp only [Bool.false_eq_true, if_false]
    match xs, hR, hl, hx with
    | [], hR, hl, hx =>
      go_enter Tryz.func34, Tryz.ntmps34
      go_wp2_with fail
      go_ret2
      exact ⟨rfl, Below.refl _ _⟩
    | [x], hR, hl, hx =>
      have ht := truth_RA (hx x (by simp))
      have gx := fun w' => group_any x.k x.n x.s x.t x.b w'
      rcases hR with h0 | ⟨g, o, rfl, hb, hc⟩
      · cases h0
      obtain ⟨y0, y1, y2, y3, y4⟩ := hc 0 x rfl
      rw [show o + 0 * 5 = o by omega] at y0 y1 y2 y3 y4
      clear hc hl hx
      simp only
      rw [ht]
      clear ht
      obtain ⟨k, n, s, t, b⟩ := x
      simp only at y0 y1 y2 y3 y4 gx ⊢
      generalize groupF ⟨k, n, s, t, b⟩ = G at *
      have GX := Lib.hid gx
      clear gx
      cases e1 : (G == 1)
      · cases e2 : (G == 2)
        · simp only [Bool.false_eq_true, if_false]
          go_enter Tryz.func34, Tryz.ntmps34
          go_wp2_with (go_at_call 61; with_reducible refine (GX.out _).mono ?_; rintro e w1 ⟨rfl, hb1⟩
                       have q4 := (hb1.cell (p := ⟨g, o + 4, none⟩) hb).trans y4)
          go_ret2
          exact ⟨rfl, hb1⟩
        · simp only [Bool.false_eq_true, if_false, if_true]
          go_enter Tryz.func34, Tryz.ntmps34
          go_wp2_with (go_at_call 61; with_reducible refine (GX.out _).mono ?_; rintro e w1 ⟨rfl, hb1⟩
                       have q3 := (hb1.cell (p := ⟨g, o + 3, none⟩) hb).trans y3)
          go_ret2
          exact ⟨by cases t.toList <;> rfl, hb1⟩
      · simp only [if_true]
        go_enter Tryz.func34, Tryz.ntmps34
        go_wp2_with (go_at_call 61; with_reducible refine (GX.out _).mono ?_; rintro e w1 ⟨rfl, hb1⟩
                     have q1 := (hb1.cell (p := ⟨g, o + 1, none⟩) hb).trans y1)
        go_ret2
        exact ⟨rfl, hb1⟩
    | x :: y :: r, hR, hl, hx =>
      have hl2 : (1 : Int) < ((x :: y :: r).length : Int) := by simp; omega
      have hl3 : (((x :: y :: r).length : Int) == 0) = false := by simp; omega
      generalize (x :: y :: r).length = L at *
      go_enter Tryz.func34, Tryz.ntmps34
      go_wp2_with fail
      go_ret2
      exact ⟨rfl, Below.refl _ _⟩
  · go_enter Tryz.func34, Tryz.ntmps34
    go_wp2_with fail
    go_ret2
    exact ⟨rfl, Below.refl _ _⟩
theorem all_RA {xs : List At} (h : xs.all rightA = true) : ∀ x ∈ xs, RA x := fun x hx => rightA_RA (List.all_eq_true.1 h x hx)
set_option maxRecDepth 100000 in
set_option maxHeartbeats 2000000 in
theorem truths_walk (first : Bool) (a : Option Addr) (c : Nat) (xs : List At) (m : Int) (w : World) (hL : Laid m w) (hR : TRow w a xs) (hnil : a = none → c = 0) (hl : xs.length ≤ 1048576) (hs : ∀ x ∈ xs, x.t.size ≤ 2000000) : Calls Tryz.prog 8 #[.bool first, .slice a xs.length c] w fun e w' => e = .returned (.bool true) ∧ Below w.heap.size w w' := by
  have CA := Lib.hid (fun w' (hb : Below w.heap.size w w') => awake4_any m w' (hL.on hb))
  have CR := Lib.hid (fun w' (hb : Below w.heap.size w w') => lright_any a c xs w' (hR.on hb) (by omega) hs)
  cases hr : xs.all rightA
  · rw [hr] at CR
    clear hr hL hR hs
    go_enter Tryz.func8, Tryz.ntmps8
    go_wp2_with (first
      | (go_at_call 29; with_reducible refine (CA.out _ hw2).mono ?_; rintro e w3 ⟨rfl, hb⟩
         have hw3 := hw2.trans (hb.mono hw2.size)
         clear hb)
      | (go_at_call 29; with_reducible refine (CA.out _ (Below.refl _ _)).mono ?_; rintro e w1 ⟨rfl, hb⟩
         have hw1 := hb
         clear hb)
      | (go_at_call 30; with_reducible refine (CR.out _ hw1).mono ?_; rintro e w2 ⟨rfl, hb⟩
         have hw2 := hw1.trans (hb.mono hw1.size)
         clear hb))
    exact bodyPost_ret (v := .bool true) (by simp [results, Tryz.results8, go_sem]) rfl ⟨rfl, hw3⟩
  · rw [hr] at CR
    have hRA := all_RA hr
    have C1 := Lib.hid (fun a' c' w' (h : TRow w' a' xs) => truth_walk first a' c' xs w' h (by omega))
    have C2 := Lib.hid (fun w' (hb : Below w.heap.size w w') => rtruth_any first a c xs w' (hR.on hb) (by omega) hRA)
    have HR := Lib.hid hR
    obtain ⟨tv, tr, htr⟩ : ∃ tv tr, truthF first xs = (tv, tr) := ⟨_, _, rfl⟩
    rw [htr] at C1 C2
    clear hr hL hR hs hRA htr
    simp only at C1 C2
    go_enter Tryz.func8, Tryz.ntmps8
    go_wp2_with (first
      | (go_at_call 29; with_reducible refine (CA.out _ (Below.refl _ _)).mono ?_; rintro e w1 ⟨rfl, hb⟩
         have hw1 := hb
         clear hb)
      | (go_at_call 30; with_reducible refine (CR.out _ hw1).mono ?_; rintro e w2 ⟨rfl, hb⟩
         have hw2 := hw1.trans (hb.mono hw1.size)
         clear hb)
      | (at_builtin; refine wpList_appA rfl _ _ rfl w2.heap.size _ [] xs rfl ⟨rfl, .inr ⟨w2.heap.size, 0, #[], rfl, Nat.le_refl _, Blk.new _ _ _, Nat.le_refl _, by unfold maxLen; omega, rfl, rfl⟩⟩ _ _ rfl (HR.out.on (hw2.alloc hw2.size _)) hnil (by simp; omega) (by simp) ?_))
    intro a' c' w3 hN hb3
    have hw3 : Below w.heap.size w w3 := (hw2.alloc hw2.size _).trans (hb3.mono hw2.size)
    clear hb3
    go_wp2_with (first
      | (go_at_call 33; with_reducible refine (C1.out _ _ _ hN).mono ?_; rintro e w4 ⟨rfl, hb⟩
         have hw4 := hw3.trans (hb.mono hw3.size)
         clear hb)
      | (go_at_call 34; with_reducible refine (C2.out _ hw4).mono ?_; rintro e w5 ⟨rfl, hb⟩
         have hw5 := hw4.trans (hb.mono hw4.size)
         clear hb))
    exact bodyPost_ret (v := .bool true) (by simp [results, Tryz.results8, go_sem]) rfl ⟨rfl, hw5⟩
set_option maxRecDepth 100000 in
theorem bool_in {H : Type} {enc : TypeId × Value → H} {W : World} {base : Nat} {v : Value} {d : DataW H} {p : List MemPlace} (hv : Value.okWide Tryz.prog W .any base 4 v) (h : DataW.Trod enc Tryz.prog W 0 (fun _ => true) true 4 v d p) :
    ∃ b : Bool, v = .bool b ∧ d = .lit (.bool b) := by
  obtain ⟨b, rfl, rfl, -⟩ := open_bool Tryz.underlying4 hv h
  exact ⟨b, rfl, rfl⟩
set_option maxRecDepth 100000 in
theorem truths_args (H : Type) (enc : TypeId × Value → H) (W : World) (base : Nat) (v0 v1 : Value) (d0 d1 : DataW H) (p0 p1 : List MemPlace)
    (hv0 : Value.okWide Tryz.prog W .any base 4 v0) (hv1 : Value.okWide Tryz.prog W .any base 46 v1)
    (h0 : DataW.Trod enc Tryz.prog W 0 (fun _ => true) true 4 v0 d0 p0) (h1 : DataW.Trod enc Tryz.prog W 0 (fun _ => true) true 46 v1 d1 p1) (hk : Rows.uptoSmall H [d0, d1] = true)
    (m : Int) (hL : Laid m W) : Calls Tryz.prog 8 #[v0, v1] W fun e w' => e = .returned (.bool true) ∧ Below W.heap.size W w' := by
  obtain ⟨b, rfl, -⟩ := bool_in hv0 h0
  obtain ⟨a0, len, cap, rfl⟩ := okWide_slice Tryz.underlying46 hv1
  obtain ⟨fuel, hf⟩ := h1
  obtain ⟨a, c, xs, e, hA, hn, hl, hs⟩ := atoms_in hf
  simp only at hl hs
  have hb := of_decide_eq_true hk
  simp only [Rows.uptoBulkAll] at hb
  rw [e]
  exact truths_walk b a c xs m W hL hA hn (by omega) (fun x hx => by have := hs x hx; omega)
end Go.Proofs.YtaoobajokhcimaaGreatDoor
