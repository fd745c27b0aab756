/- Texts put together: LbK, LbL, LbW. -/
import Derived.Test.YtfagfkfcokmclaaGreatDoorZLbA
import Derived.Defers
import Derived.Recover
section
set_option linter.unusedSimpArgs false
set_option linter.unusedVariables false
set_option linter.constructorNameAsVariable false
namespace Go.Proofs.YtfagfkfcokmclaaGreatDoor
open Go.RowKit Go.Sort

/-- A row of numbers that lies. -/
def NsRow (w : World) (a : Option Addr) (ns : List Int) : Prop := ns = [] ∨ ∃ b o, a = some ⟨b, o, none⟩ ∧ b < w.heap.size ∧ ∀ j x, ns[j]? = some x → w.cell? ⟨b, o + j, none⟩ = some (.int .i64 x)
set_option maxRecDepth 100000 in
set_option maxHeartbeats 800000 in
theorem l19of_any (ns : List Int) (a : Option Addr) (c : Nat) (w : World) (hT : NsRow w a ns) (hl : ns.length ≤ 100000000) :
    Calls Tryz.prog 13 #[.slice a ns.length c] w fun e w' => ∃ v, e = .returned v ∧ OwnI w.heap.size w' v (ns.map ofA) ∧ Below w.heap.size w w' := by
  have HT := Lib.hid hT
  clear hT
  go_enter Tryz.func13, Tryz.ntmps13
  go_wp2_with fail
  go_loopg [3, 4] (ns.length + 1) (fun m oo ii wr => ∃ j : Nat, j ≤ ns.length ∧ m + j = ns.length + 1 ∧ ii = .int .i64 (j : Int) ∧ OwnI w.heap.size wr oo ((ns.map ofA).take j) ∧ Below w.heap.size w wr)
  case atStart => exact ⟨0, by omega, by omega, rfl, OwnI.nil _ _, Below.refl _ _⟩
  case round =>
    obtain ⟨j, hj, hmj, rfl, hO, hwr⟩ := hrel
    have HO := Lib.hid hO
    have hj0 : (0 : Int) ≤ (j : Int) := Int.natCast_nonneg _
    by_cases hlt : j < ns.length
    · have i0 : decide ((j : Int) < (ns.length : Int)) = true := by simp; omega
      have i6 : (j : Int) < (ns.length : Int) := by omega
      obtain ⟨x, hjx⟩ : ∃ x, ns[j]? = some x := ⟨_, List.getElem?_eq_getElem hlt⟩
      rcases HT.out with h0 | ⟨b, o, rfl, hb, hc⟩
      · rw [h0] at hlt; simp at hlt
      have u0 := (hwr.cell (p := ⟨b, o + j, none⟩) hb).trans (hc j x hjx)
      have lb := Nat.lt_of_lt_of_le hb hwr.size
      have htk : ((ns.map ofA).take j).length = j := by rw [List.length_take, List.length_map]; omega
      have hts : (ns.map ofA).take (j + 1) = (ns.map ofA).take j ++ [ofA x] := by rw [List.take_add_one, List.getElem?_map, hjx]; rfl
      have HTS := Lib.hid hts
      clear hc hjx hO hts
      go_wp2_with (at_builtin; refine wpList_appI rfl _ _ rfl w.heap.size _ ((ns.map ofA).take j) rfl (HO.out.on ((Below.refl _ _).alloc (Nat.le_refl _) _)) wr.heap.size _ (ofA x) rfl (Blk.new _ _ _) (by omega) (by have := hwr.size; simp; omega) ?_)
      intro v' w5 hO5 hb5
      have hw5 : Below w.heap.size w w5 := (hwr.alloc hwr.size _).trans hb5
      rw [← HTS.out] at hO5
      go_wp2_with fail
      go_roundg (gk - 1)
      case measure => omega
      case rel => exact ⟨j + 1, by omega, by omega, by go_num, hO5, hw5⟩
    · have i0 : decide ((j : Int) < (ns.length : Int)) = false := by simp; omega
      have hO' := hO
      rw [List.take_of_length_le (by rw [List.length_map]; omega)] at hO'
      have HO2 := Lib.hid hO'
      clear hO hO' HO
      go_wp2_with fail
      go_returns
      exact ⟨_, rfl, HO2.out, hwr⟩
end Go.Proofs.YtfagfkfcokmclaaGreatDoor
end
section
set_option linter.unusedSimpArgs false
set_option linter.unusedVariables false
set_option linter.constructorNameAsVariable false
namespace Go.Proofs.YtfagfkfcokmclaaGreatDoor
open Go.RowKit Go.Sort

theorem ItRow.one {w : World} {q : Nat} {t : TypeId} {x : At} (h : Blk w q #[.int .i64 0, .int .i64 x.k, .int .i64 x.n, .int .i64 x.s, .string x.t, .bool x.b] t) : ItRow w (some ⟨q, 0, none⟩) [x] :=
  .inr ⟨q, 0, rfl, h.lt, fun j y hj => by
    cases j with
    | zero =>
      simp at hj
      subst hj
      exact ⟨h.cell 0, h.cell 1, h.cell 2, h.cell 3, h.cell 4, h.cell 5⟩
    | succ j => simp at hj⟩
set_option maxRecDepth 100000 in
set_option maxHeartbeats 800000 in
theorem l19text_any (s : ByteArray) (w : World) : Calls Tryz.prog 12 #[.string s] w fun e w' => e = .returned (.slice (some ⟨w.heap.size, 0, none⟩) 1 1) ∧ ItRow w' (some ⟨w.heap.size, 0, none⟩) [textA s] ∧ Below w.heap.size w w' := by
  have hR : ItRow (w.alloc (.cells #[.int .i64 0, .int .i64 3, .int .i64 0, .int .i64 0, .string s, .bool false] 28)) (some ⟨w.heap.size, 0, none⟩) [textA s] := ItRow.one (x := textA s) (Blk.new w _ _)
  have hB : Below w.heap.size w (w.alloc (.cells #[.int .i64 0, .int .i64 3, .int .i64 0, .int .i64 0, .string s, .bool false] 28)) := (Below.refl _ _).alloc (Nat.le_refl _) _
  have HR := Lib.hid (And.intro hR hB)
  clear hR hB
  go_enter Tryz.func12, Tryz.ntmps12
  go_wp2_with fail
  go_returns
  exact ⟨rfl, HR.out⟩
end Go.Proofs.YtfagfkfcokmclaaGreatDoor
end
section
set_option linter.unusedSimpArgs false
set_option linter.unusedVariables false
set_option linter.constructorNameAsVariable false
namespace Go.Proofs.YtfagfkfcokmclaaGreatDoor
open Go.RowKit Go.Sort

theorem OwnI.other {w : World} {base : Nat} {v : Value} {xs : List At} (h : OwnI base w v xs) {p : Addr} (hp : p.block < base) (u : Value) : OwnI base (w.setCell p u) v xs := by
  refine ⟨h.1, ?_⟩
  rcases h.2 with h0 | ⟨g, cap, cur, rfl, h1, h2, h3, h4, h5, h6⟩
  · exact .inl h0
  · have hB : Blk w g cur 28 := h2
    exact .inr ⟨g, cap, cur, rfl, h1, (show Blk (w.setCell p u) g cur 28 from Blk.other hB (by omega) u), h3, h4, h5, h6⟩
theorem call2_any (k n s : Int) (t : ByteArray) (b : Bool) (hx : t.size ≤ 65536) (w : World) : Calls Tryz.prog 20 #[.agg #[.int .i64 0, .int .i64 k, .int .i64 n, .int .i64 s, .string t, .bool b]] w fun e w' => e = .returned (.bool false) ∧ Below w.heap.size w w' := by
  have i8 : decide ((65536 : Int) < (t.size : Int)) = false := by simp; omega
  go_enter Tryz.func20, Tryz.ntmps20
  go_wp2_with fail
  go_returns
  exact ⟨rfl, (Below.refl _ _).alloc (Nat.le_refl _) _⟩
set_option maxRecDepth 100000 in
set_option maxHeartbeats 800000 in
theorem idx_none (xs : List At) (a : Option Addr) (c : Nat) (w : World) (hI : ItRow w a xs) (hx : ∀ x ∈ xs, x.t.size ≤ 65536) (hl : xs.length ≤ 100000000) :
    Calls Tryz.prog 54 #[.slice a xs.length c, .func (.func 20) #[] #[]] w fun e w' => e = .returned (.int .i64 (-1)) ∧ Below w.heap.size w w' := by
  have HT := Lib.hid hI
  have HX := Lib.hid hx
  clear hI hx
  go_enter Tryz.func54, Tryz.ntmps54
  go_wp2_with fail
  go_loopg [8] (xs.length + 1) (fun m ii wr => ∃ j : Nat, j ≤ xs.length ∧ m + j = xs.length + 1 ∧ ii = .int .i64 (j : Int) ∧ Below w.heap.size w wr)
  case atStart => exact ⟨0, by omega, by omega, rfl, Below.refl _ _⟩
  case round =>
    obtain ⟨j, hj, hmj, rfl, hwr⟩ := hrel
    have hj0 : (0 : Int) ≤ (j : Int) := Int.natCast_nonneg _
    by_cases hlt : j < xs.length
    · have i0 : decide ((j : Int) < (xs.length : Int)) = true := by simp; omega
      have i6 : (j : Int) < (xs.length : Int) := by omega
      obtain ⟨x, hjx⟩ : ∃ x, xs[j]? = some x := ⟨_, List.getElem?_eq_getElem hlt⟩
      rcases HT.out with h0 | ⟨b, o, rfl, hb, hc⟩
      · rw [h0] at hlt; simp at hlt
      obtain ⟨u0, u1, u2, u3, u4, u5⟩ := hc j x hjx
      replace u0 := (hwr.cell (p := ⟨b, o + j * 6, none⟩) hb).trans u0
      replace u1 := (hwr.cell (p := ⟨b, o + j * 6 + 1, none⟩) hb).trans u1
      replace u2 := (hwr.cell (p := ⟨b, o + j * 6 + 2, none⟩) hb).trans u2
      replace u3 := (hwr.cell (p := ⟨b, o + j * 6 + 3, none⟩) hb).trans u3
      replace u4 := (hwr.cell (p := ⟨b, o + j * 6 + 4, none⟩) hb).trans u4
      replace u5 := (hwr.cell (p := ⟨b, o + j * 6 + 5, none⟩) hb).trans u5
      have CV := Lib.hid (call2_any x.k x.n x.s x.t x.b (HX.out x (List.mem_of_getElem? hjx)) wr)
      clear hc hjx
      go_wp2_with (go_at_call 20; with_reducible refine CV.out.mono ?_; rintro e w1 ⟨rfl, hb1⟩)
      have hw1 := hwr.trans (hb1.mono hwr.size)
      go_roundg (gk - 1)
      case measure => omega
      case rel => exact ⟨j + 1, by omega, by omega, by go_num, hw1⟩
    · have i0 : decide ((j : Int) < (xs.length : Int)) = false := by simp; omega
      go_wp2_with fail
      go_returns
      exact ⟨rfl, hwr⟩
theorem con_none (xs : List At) (a : Option Addr) (c : Nat) (w : World) (hI : ItRow w a xs) (hx : ∀ x ∈ xs, x.t.size ≤ 65536) (hl : xs.length ≤ 100000000) :
    Calls Tryz.prog 19 #[.slice a xs.length c, .func (.func 20) #[] #[]] w fun e w' => e = .returned (.bool false) ∧ Below w.heap.size w w' := by
  have CI := Lib.hid (idx_none xs a c w hI hx hl)
  clear hI hx hl
  go_enter Tryz.func19, Tryz.ntmps19
  go_wp2_with (go_at_call 54; with_reducible refine CI.out.mono ?_; rintro e w1 ⟨rfl, hb⟩)
  go_ret
  exact ⟨rfl, hb⟩
/-- The deferred function of a call that returns finds nothing. -/
theorem lcatch_idle (p q : Addr) (w : World) :
    CallsD Tryz.prog 17 #[.pointer (some p), .pointer (some q)] .returning w fun e u' w' => e = .returned (.tuple #[]) ∧ u' = .returning ∧ w' = w := by
  have hnil : ∀ w : World, (binOp BinOp.neq 20 .nilIface .nilIface).run Tryz.prog w = .ok (.bool false) w := fun _ => by kernel_rfl
  refine callsD_of_wpS Tryz.func17 rfl fun c₀ cs hu => ?_
  apply wpS_seq
  apply wpS_region
  simp [wpOpsS, go_sem, recoverD, hu, Tryz.ntmps17, Exit.thenS]
  apply wpS_seq
  apply wpS_region
  simp [wpOpsS, go_sem, hnil, Exit.thenS]
  refine wpS_cond (t := false) (by simp [Act.eval, Array.replicate]) ?_
  simp only [Bool.false_eq_true, if_false]
  refine wpS_of_wp (wp_skip ?_)
  cases c₀
  simp_all [bodyPostS, results, Tryz.results17]
set_option maxRecDepth 100000 in
set_option maxHeartbeats 800000 in
theorem lcall_of (name : ByteArray) (args : Value) (n cc : Nat) (aa : Option Addr) (hargs : args = .slice aa n cc) (xs : List At) (w : World)
    (hH : ∀ w', Below w.heap.size w w' → Calls Tryz.prog 14 #[.string name, .int .i64 (n : Int)] w' fun e w'' => e = .returned (.bool true) ∧ Below w'.heap.size w' w'')
    (hD : ∀ w', Below w.heap.size w w' → Calls Tryz.prog 18 #[.agg #[.pointer none, .slice aa n cc], .string name] w' fun e w'' => ∃ v, e = .returned v ∧ OwnI w'.heap.size w'' v xs ∧ Below w'.heap.size w' w'')
    (hx : ∀ x ∈ xs, x.t.size ≤ 65536) (hl : xs.length ≤ 100000000) :
    Calls Tryz.prog 9 #[.pointer none, .string name, args] w fun e w' => ∃ v, e = .returned (.tuple #[v, .int .i64 0]) ∧ OwnI w.heap.size w' v xs ∧ Below w.heap.size w w' := by
  subst hargs
  have hmf : ∀ (fn : Fn) (first cap : Array Value) (w : World), (Instr.makeFunc fn first cap).run Tryz.prog w = .ok (.func fn first cap) w := fun _ _ _ _ => rfl
  have hb0 : Below w.heap.size w ((w.alloc (.cells #[.slice none 0 0] 29)).alloc (.cells #[.int .i64 0] 30)) := ((Below.refl _ _).alloc (Nat.le_refl _) _).alloc (by simp) _
  have B0 : Blk ((w.alloc (.cells #[.slice none 0 0] 29)).alloc (.cells #[.int .i64 0] 30)) w.heap.size #[.slice none 0 0] 29 := (Blk.new _ _ _).alloc _
  have B1 : Blk ((w.alloc (.cells #[.slice none 0 0] 29)).alloc (.cells #[.int .i64 0] 30)) (w.heap.size + 1) #[.int .i64 0] 30 := by
    have := Blk.new (w.alloc (.cells #[.slice none 0 0] 29)) #[.int .i64 0] 30
    simpa using this
  have HH := Lib.hid hH
  have HD := Lib.hid hD
  have HX := Lib.hid hx
  clear hH hD hx
  go_enter_defers Tryz.func9, Tryz.ntmps9
  go_wp2_with fail
  generalize (w.alloc (.cells #[.slice none 0 0] 29)).alloc (.cells #[.int .i64 0] 30) = W at *
  have k0 := B0.lt
  have k1 := B1.lt
  with_reducible refine (HH.out W hb0).mono ?_
  rintro e w1 ⟨rfl, hb1⟩
  have C0 := B0.below hb1 k0
  have C1 := B1.below hb1 k1
  have hw1 := hb0.trans (hb1.mono hb0.size)
  clear B0 B1 hb1 hb0 k0 k1
  go_wp2_with fail
  with_reducible refine (HD.out w1 hw1).mono ?_
  rintro e w2 ⟨v, rfl, hO, hb2⟩
  have D0 := C0.below hb2 C0.lt
  have D1 := C1.below hb2 C1.lt
  have hw2 := hw1.trans (hb2.mono hw1.size)
  have hs1 := hw1.size
  have ks := C1.lt
  have hs2 : w.heap.size + 1 < w1.heap.size := ks
  clear C0 C1 hb2 HH HD
  obtain ⟨a9, c9, rfl, hI, -⟩ := hO.read
  have hO3 : OwnI w1.heap.size (w2.setCell ⟨w.heap.size, 0, none⟩ (.slice a9 xs.length c9)) (.slice a9 xs.length c9) xs := hO.other (p := ⟨w.heap.size, 0, none⟩) (by show w.heap.size < w1.heap.size; omega) _
  have hI3 : ItRow (w2.setCell ⟨w.heap.size, 0, none⟩ (.slice a9 xs.length c9)) a9 xs := by
    obtain ⟨a8, c8, he, hI8, -⟩ := hO3.read
    cases he
    exact hI8
  have hw3 : Below w.heap.size w (w2.setCell ⟨w.heap.size, 0, none⟩ (.slice a9 xs.length c9)) := hw2.setCell (Nat.le_refl _) _
  have E0 : Blk (w2.setCell ⟨w.heap.size, 0, none⟩ (.slice a9 xs.length c9)) w.heap.size #[.slice a9 xs.length c9] 29 := D0.set 0 _
  have E1 : Blk (w2.setCell ⟨w.heap.size, 0, none⟩ (.slice a9 xs.length c9)) (w.heap.size + 1) #[.int .i64 0] 30 := D1.other (a := ⟨w.heap.size, 0, none⟩) (by show w.heap.size + 1 ≠ w.heap.size; omega) _
  have z0 : w2.cell? ⟨w.heap.size, 0, none⟩ = some (.slice none 0 0) := D0.cell 0
  have f0 : w2.frozen? ⟨w.heap.size, 0, none⟩ = false := D0.free 0
  have kd := D0.lt
  have HI3 := Lib.hid (And.intro hI3 (And.intro hO3 (And.intro hw3 (And.intro E0 E1))))
  clear hO hI hO3 hI3 hw3 E0 E1 D0 D1 hw2 hw1 ks
  go_wp2_with fail
  obtain ⟨hI3, hO3, hw3, E0, E1⟩ := HI3.out
  clear HI3 z0 f0 kd
  generalize w2.setCell ⟨w.heap.size, 0, none⟩ (.slice a9 xs.length c9) = W3 at *
  have CC := Lib.hid (con_none xs a9 c9 W3 hI3 HX.out hl)
  with_reducible refine CC.out.mono ?_
  rintro e w4 ⟨rfl, hb4⟩
  have F0 := E0.below hb4 E0.lt
  have F1 := E1.below hb4 E1.lt
  have hO4 := hO3.on hb4
  have hw4 := hw3.trans (hb4.mono hw3.size)
  have z0 : w4.cell? ⟨w.heap.size, 0, none⟩ = some (.slice a9 xs.length c9) := F0.cell 0
  have z1 : w4.cell? ⟨w.heap.size + 1, 0, none⟩ = some (.int .i64 0) := F1.cell 0
  have f0 : w4.frozen? ⟨w.heap.size, 0, none⟩ = false := F0.free 0
  have f1 : w4.frozen? ⟨w.heap.size + 1, 0, none⟩ = false := F1.free 0
  have kd := F1.lt
  have kd0 := F0.lt
  have hO5 : OwnI w1.heap.size ((w4.setCell ⟨w.heap.size, 0, none⟩ (.slice a9 xs.length c9)).setCell ⟨w.heap.size + 1, 0, none⟩ (.int .i64 0)) (.slice a9 xs.length c9) xs := (hO4.other (p := ⟨w.heap.size, 0, none⟩) (by show w.heap.size < w1.heap.size; omega) _).other (p := ⟨w.heap.size + 1, 0, none⟩) hs2 _
  have hw5 : Below w.heap.size w ((w4.setCell ⟨w.heap.size, 0, none⟩ (.slice a9 xs.length c9)).setCell ⟨w.heap.size + 1, 0, none⟩ (.int .i64 0)) := (hw4.setCell (Nat.le_refl _) _).setCell (by simp) _
  have q0 : ((w4.setCell ⟨w.heap.size, 0, none⟩ (.slice a9 xs.length c9)).setCell ⟨w.heap.size + 1, 0, none⟩ (.int .i64 0)).cell? ⟨w.heap.size, 0, none⟩ = some (.slice a9 xs.length c9) := ((F0.set 0 (.slice a9 xs.length c9)).other (a := ⟨w.heap.size + 1, 0, none⟩) (by show w.heap.size ≠ w.heap.size + 1; omega) _).cell 0
  have q1 : ((w4.setCell ⟨w.heap.size, 0, none⟩ (.slice a9 xs.length c9)).setCell ⟨w.heap.size + 1, 0, none⟩ (.int .i64 0)).cell? ⟨w.heap.size + 1, 0, none⟩ = some (.int .i64 0) := ((F1.other (a := ⟨w.heap.size, 0, none⟩) (by show w.heap.size + 1 ≠ w.heap.size; omega) (.slice a9 xs.length c9)).set 0 _).cell 0
  have HQ := Lib.hid (And.intro q0 (And.intro q1 (And.intro (OwnI.low hO5 hs1) hw5)))
  clear CC hb4 F0 F1 E0 E1 hO3 hO4 hO5 hw5 q0 q1 hI3 hw3 hw4
  go_wp2_with fail
  refine leaves_cons (f := 17) (args := #[.pointer (some ⟨w.heap.size, 0, none⟩), .pointer (some ⟨w.heap.size + 1, 0, none⟩)]) (by simp) (by simp [go_sem]) ?_
  refine (lcatch_idle ⟨w.heap.size, 0, none⟩ ⟨w.heap.size + 1, 0, none⟩ _).mono ?_
  rintro e u' w9 ⟨rfl, rfl, rfl⟩
  obtain ⟨q0, q1, hO5, hw5⟩ := HQ.out
  generalize (w4.setCell ⟨w.heap.size, 0, none⟩ (.slice a9 xs.length c9)).setCell ⟨w.heap.size + 1, 0, none⟩ (.int .i64 0) = w5 at *
  simp [Leaves, settle, results, Tryz.results9, go_sem, q0, q1]
  exact ⟨hO5, hw5⟩
theorem lcall_no (name : ByteArray) (w : World)
    (hH : ∀ w', Below w.heap.size w w' → Calls Tryz.prog 14 #[.string name, .int .i64 0] w' fun e w'' => e = .returned (.bool false) ∧ Below w'.heap.size w' w'') :
    Calls Tryz.prog 9 #[.pointer none, .string name, .slice none 0 0] w fun e w' => e = .returned (.tuple #[.slice none 0 0, .int .i64 42]) ∧ Below w.heap.size w w' := by
  have hmf : ∀ (fn : Fn) (first cap : Array Value) (w : World), (Instr.makeFunc fn first cap).run Tryz.prog w = .ok (.func fn first cap) w := fun _ _ _ _ => rfl
  have hb0 : Below w.heap.size w ((w.alloc (.cells #[.slice none 0 0] 29)).alloc (.cells #[.int .i64 0] 30)) := ((Below.refl _ _).alloc (Nat.le_refl _) _).alloc (by simp) _
  have B0 : Blk ((w.alloc (.cells #[.slice none 0 0] 29)).alloc (.cells #[.int .i64 0] 30)) w.heap.size #[.slice none 0 0] 29 := (Blk.new _ _ _).alloc _
  have B1 : Blk ((w.alloc (.cells #[.slice none 0 0] 29)).alloc (.cells #[.int .i64 0] 30)) (w.heap.size + 1) #[.int .i64 0] 30 := by
    have := Blk.new (w.alloc (.cells #[.slice none 0 0] 29)) #[.int .i64 0] 30
    simpa using this
  have HH := Lib.hid hH
  clear hH
  go_enter_defers Tryz.func9, Tryz.ntmps9
  go_wp2_with fail
  generalize (w.alloc (.cells #[.slice none 0 0] 29)).alloc (.cells #[.int .i64 0] 30) = W at *
  have k0 := B0.lt
  have k1 := B1.lt
  with_reducible refine (HH.out W hb0).mono ?_
  rintro e w4 ⟨rfl, hb1⟩
  have F0 := B0.below hb1 k0
  have F1 := B1.below hb1 k1
  have hw4 := hb0.trans (hb1.mono hb0.size)
  have z0 : w4.cell? ⟨w.heap.size, 0, none⟩ = some (.slice none 0 0) := F0.cell 0
  have z1 : w4.cell? ⟨w.heap.size + 1, 0, none⟩ = some (.int .i64 0) := F1.cell 0
  have f0 : w4.frozen? ⟨w.heap.size, 0, none⟩ = false := F0.free 0
  have f1 : w4.frozen? ⟨w.heap.size + 1, 0, none⟩ = false := F1.free 0
  have kd := F1.lt
  have kd0 := F0.lt
  have hw5 : Below w.heap.size w ((w4.setCell ⟨w.heap.size, 0, none⟩ (.slice none 0 0)).setCell ⟨w.heap.size + 1, 0, none⟩ (.int .i64 42)) := (hw4.setCell (Nat.le_refl _) _).setCell (by simp) _
  have q0 : ((w4.setCell ⟨w.heap.size, 0, none⟩ (.slice none 0 0)).setCell ⟨w.heap.size + 1, 0, none⟩ (.int .i64 42)).cell? ⟨w.heap.size, 0, none⟩ = some (.slice none 0 0) := ((F0.set 0 (.slice none 0 0)).other (a := ⟨w.heap.size + 1, 0, none⟩) (by show w.heap.size ≠ w.heap.size + 1; omega) _).cell 0
  have q1 : ((w4.setCell ⟨w.heap.size, 0, none⟩ (.slice none 0 0)).setCell ⟨w.heap.size + 1, 0, none⟩ (.int .i64 42)).cell? ⟨w.heap.size + 1, 0, none⟩ = some (.int .i64 42) := ((F1.other (a := ⟨w.heap.size, 0, none⟩) (by show w.heap.size + 1 ≠ w.heap.size; omega) (.slice none 0 0)).set 0 _).cell 0
  have HQ := Lib.hid (And.intro q0 (And.intro q1 hw5))
  clear HH hb0 hb1 B0 B1 k0 k1 F0 F1 hw5 q0 q1 hw4
  go_wp2_with fail
  refine leaves_cons (f := 17) (args := #[.pointer (some ⟨w.heap.size, 0, none⟩), .pointer (some ⟨w.heap.size + 1, 0, none⟩)]) (by simp) (by simp [go_sem]) ?_
  refine (lcatch_idle ⟨w.heap.size, 0, none⟩ ⟨w.heap.size + 1, 0, none⟩ _).mono ?_
  rintro e u' w9 ⟨rfl, rfl, rfl⟩
  obtain ⟨q0, q1, hw5⟩ := HQ.out
  generalize (w4.setCell ⟨w.heap.size, 0, none⟩ (.slice none 0 0)).setCell ⟨w.heap.size + 1, 0, none⟩ (.int .i64 42) = w5 at *
  simp [Leaves, settle, results, Tryz.results9, go_sem, q0, q1]
  exact hw5
end Go.Proofs.YtfagfkfcokmclaaGreatDoor
end
