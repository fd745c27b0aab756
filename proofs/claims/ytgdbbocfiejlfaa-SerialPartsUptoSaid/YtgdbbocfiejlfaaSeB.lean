/- The writer: a Builder inside a struct. -/
import Derived.Test.YtgdbbocfiejlfaaBox
import Derived.Lib.Builder
import Derived.Lib.AppendStr
import Derived.Lib.UnsafeStr
import Derived.Lib.Strings
import Derived.WalkKit
import Derived.ProofKit
import Derived.Laws.Externs
import Derived.Lib.Hide
set_option linter.unusedSimpArgs false
set_option linter.unusedVariables false
set_option linter.constructorNameAsVariable false
namespace Go.Proofs.Ytgdbbocfiejlfaa
open Go.RowKit

theorem infoByte : (Try.prog.info? 5).map (fun i => (i.zero, i.size, i.bytes)) = some (some (.int .u8 0), 1, 1) := by kernel_rfl
theorem sizeBu : (Try.prog.info? 40).map (·.size) = some 2 := by kernel_rfl
theorem liesBu : liesAt Try.prog Try.prog.depth 42 (3 / Try.prog.cellsOf 42) 0 40 1 = true := by kernel_rfl
/-- A writer that holds these bytes. -/
structure WB (B b : Nat) (ok : Bool) (bs : List UInt8) (w : World) : Prop where
  le : B ≤ b
  ex : ∃ p v, Blk w b #[p, v, .bool ok] 42 ∧ (p = .pointer none ∨ p = .pointer (some ⟨b, 0, none⟩)) ∧ w.ownsRow B 5 1 v bs.length (Lib.byteCells bs)
theorem Blk.shape {w : World} {b : Nat} {cs : Array Value} {t : TypeId} (h : Blk w b cs t) : w.shape? b = some (t, cs.size) := by
  unfold Blk at h
  simp [World.shape?, h]
set_option maxRecDepth 100000 in
set_option maxHeartbeats 1000000 in
theorem copyCheck_used (b : Nat) (w : World) (h0 : w.cell? ⟨b, 0, none⟩ = some (.pointer (some ⟨b, 0, none⟩))) :
    Calls Try.prog 20 #[.pointer (some ⟨b, 0, none⟩)] w fun e w' => e = .returned (.tuple #[]) ∧ w' = w := by
  obtain ⟨j, hj, _⟩ := Option.map_eq_some_iff.1 sizeBu
  go_enter Try.func20, Try.ntmps20
  go_wp2
  rw [Lib.run_neq_ptr_same w _ Try.underlying37 hj]
  go_wp2
  go_end0
  exact ⟨rfl, rfl⟩
set_option maxRecDepth 100000 in
set_option maxHeartbeats 1000000 in
theorem copyCheck_fresh (b : Nat) (v : Value) (ok : Bool) (w : World) (hB : Blk w b #[.pointer none, v, .bool ok] 42) :
    Calls Try.prog 20 #[.pointer (some ⟨b, 0, none⟩)] w fun e w' => e = .returned (.tuple #[]) ∧ w' = w.setCell ⟨b, 0, none⟩ (.pointer (some ⟨b, 0, none⟩)) := by
  obtain ⟨j, hj, hjs⟩ := Option.map_eq_some_iff.1 sizeBu
  have h0 : w.cell? ⟨b, 0, none⟩ = some (.pointer none) := hB.cell 0
  have hfz := hB.free 0
  have hsh : w.shape? b = some (42, 3) := hB.shape
  clear hB
  go_enter Try.func20, Try.ntmps20
  go_wp2
  rw [Lib.run_to_unsafe w ⟨b, 0, none⟩ Try.underlying37 Try.underlying76 hj (by rw [hjs]; decide) hsh (Nat.zero_lt_succ 2)]
  simp only [Result.andThen]
  rw [Oper.upon_value]
  go_wp2
  rw [run_callFunc_extern Try.func24 (by kernel_rfl) (by kernel_rfl) (by kernel_rfl) (e := Extern.AbiNoEscape.same) (by kernel_rfl)]
  rw [Lib.run_noEscape]
  simp only [Result.andThen]
  rw [Oper.upon_value]
  go_wp2
  rw [Lib.run_from_unsafe w ⟨b, 0, none⟩ Try.underlying76 Try.underlying37 hj hsh liesBu]
  simp only [Result.andThen]
  rw [Oper.upon_value]
  go_wp2
  go_end0
  exact ⟨rfl, rfl⟩
/-- What a call that writes leaves: what lies below B, and every block that is neither bytes nor a writer. -/
structure WK (B : Nat) (w w' : World) : Prop where
  bl : Below B w w'
  oth : ∀ q cs t, (t != 42 && t != 5) = true → Blk w q cs t → Blk w' q cs t
theorem WK.refl (B : Nat) (w : World) : WK B w w := ⟨Below.refl _ _, fun _ _ _ _ h => h⟩
theorem WK.trans {B : Nat} {a b c : World} (h1 : WK B a b) (h2 : WK B b c) : WK B a c := ⟨h1.bl.trans h2.bl, fun q cs t ht h => h2.oth q cs t ht (h1.oth q cs t ht h)⟩
theorem WK.of {B : Nat} {w w' : World} (hb : Below w.heap.size w w') (hB : B ≤ w.heap.size) : WK B w w' := ⟨hb.mono hB, fun q cs t _ h => h.below hb h.lt⟩
theorem own_below {e : TypeId} {base n k : Nat} {w w' : World} {v : Value} {xs : List Value} {sz : Nat} (h : w.ownsRow base e sz v k xs) (hb : Below n w w') (hv : ∀ g, v.ownBlock = some g → g < n) : w'.ownsRow base e sz v k xs := by
  refine ⟨h.1, ?_⟩
  rcases h.2 with h0 | ⟨g, cap, cur, rfl, h1, h2, h3, h4, h5, h6⟩
  · exact .inl h0
  · exact .inr ⟨g, cap, cur, rfl, h1, (show Blk w' g cur e from Blk.below h2 hb (hv g rfl)), h3, h4, h5, h6⟩
theorem own_lt {e : TypeId} {base k : Nat} {w : World} {v : Value} {xs : List Value} {sz : Nat} (h : w.ownsRow base e sz v k xs) : ∀ g, v.ownBlock = some g → base ≤ g ∧ g < w.heap.size := by
  intro g hg
  rcases h.2 with ⟨rfl, -⟩ | ⟨g', cap, cur, rfl, h1, h2, -⟩
  · cases hg
  · obtain rfl : g' = g := by simpa [Value.ownBlock] using hg
    exact ⟨h1, Blk.lt h2⟩
theorem own_grown {e : TypeId} {base n k : Nat} {w w' : World} {v : Value} {xs : List Value} {sz : Nat} (h : w.ownsRow base e sz v k xs) (hg : w.grownBy w' v.ownBlock) (hn : n ≤ base) (hb : n ≤ w.heap.size) : Below n w w' :=
  (Below.refl n w).grown hg hb fun q hq => Nat.le_trans hn (own_lt h q hq).1
theorem own_type {e : TypeId} {base k : Nat} {w : World} {v : Value} {xs : List Value} {sz : Nat} (h : w.ownsRow base e sz v k xs) {q : Nat} {cs : Array Value} {t : TypeId} (hq : Blk w q cs t) (ht : t ≠ e) : v.ownBlock ≠ some q := by
  rcases h.2 with ⟨rfl, -⟩ | ⟨g', cap, cur, rfl, h1, h2, -⟩
  · intro e; cases e
  · intro e
    obtain rfl : g' = q := by simpa [Value.ownBlock] using e
    unfold Blk at hq
    rw [h2] at hq
    simp only [Option.some.injEq, Obj.cells.injEq] at hq
    exact ht hq.2.1.symm
theorem own_set {e : TypeId} {base k : Nat} {w : World} {v : Value} {xs : List Value} {sz : Nat} (h : w.ownsRow base e sz v k xs) {q : Nat} (hq : v.ownBlock ≠ some q) (i : Nat) (x : Value) : (w.setCell ⟨q, i, none⟩ x).ownsRow base e sz v k xs := by
  refine ⟨h.1, ?_⟩
  rcases h.2 with h0 | ⟨g, cap, cur, rfl, h1, h2, h3, h4, h5, h6⟩
  · exact .inl h0
  · exact .inr ⟨g, cap, cur, rfl, h1, (show Blk _ g cur e from Blk.other h2 (fun e => hq (by simp [Value.ownBlock] at e ⊢; exact e)) x), h3, h4, h5, h6⟩
theorem Blk.grown {w w' : World} {b : Nat} {cs : Array Value} {t : TypeId} {row : Option Nat} (h : Blk w b cs t) (hg : w.grownBy w' row) (hne : row ≠ some b) : Blk w' b cs t := by
  have hlt := h.lt
  unfold Blk at h ⊢
  rw [hg.block _ hlt (fun e => hne e.symm)]
  exact h
theorem WB.lt {B b : Nat} {ok : Bool} {bs : List UInt8} {w : World} (h : WB B b ok bs w) : b < w.heap.size := by
  obtain ⟨p, v, hB, -⟩ := h.ex
  exact hB.lt
theorem WB.on {B b : Nat} {ok : Bool} {bs : List UInt8} {w w' : World} (h : WB B b ok bs w) (hb : Below w.heap.size w w') : WB B b ok bs w' := by
  obtain ⟨p, v, hB, hp, ho⟩ := h.ex
  exact ⟨h.le, p, v, hB.below hb hB.lt, hp, own_below ho hb fun g hg => (own_lt ho g hg).2⟩
theorem neWB : 42 ≠ 5 := by decide
theorem ck_any (B b : Nat) (ok : Bool) (bs : List UInt8) (w : World) (h : WB B b ok bs w) :
    Calls Try.prog 20 #[.pointer (some ⟨b, 0, none⟩)] w fun e w' => e = .returned (.tuple #[]) ∧ (∃ v, Blk w' b #[.pointer (some ⟨b, 0, none⟩), v, .bool ok] 42 ∧ w'.ownsRow B 5 1 v bs.length (Lib.byteCells bs)) ∧ WK B w w' := by
  obtain ⟨p, v, hB, hp, ho⟩ := h.ex
  rcases hp with rfl | rfl
  · refine (copyCheck_fresh b v ok w hB).mono ?_
    rintro e w' ⟨rfl, rfl⟩
    refine ⟨rfl, ⟨v, hB.set 0 _, own_set ho (own_type ho hB neWB) 0 _⟩, (Below.refl B w).setCell (p := ⟨b, 0, none⟩) h.le _, fun q cs t ht hq => hq.other (a := ⟨b, 0, none⟩) (fun e => ?_) _⟩
    obtain rfl : q = b := e
    unfold Blk at hq hB
    rw [hB] at hq
    simp only [Option.some.injEq, Obj.cells.injEq] at hq
    rw [← hq.2.1] at ht
    simp at ht
  · refine (copyCheck_used b w (hB.cell 0)).mono ?_
    rintro e w' ⟨rfl, rfl⟩
    exact ⟨rfl, ⟨v, hB, ho⟩, WK.refl _ _⟩
theorem cells_app (xs ys : List UInt8) : Lib.byteCells (xs ++ ys) = Lib.byteCells xs ++ Lib.byteCells ys := by simp [Lib.byteCells]
set_option maxRecDepth 100000 in
set_option maxHeartbeats 2000000 in
theorem write_any (B b : Nat) (ok : Bool) (bs : List UInt8) (s : ByteArray) (w : World) (h : WB B b ok bs w) (hlen : bs.length + s.size ≤ 140737488355328) (hBw : B ≤ w.heap.size) :
    Calls Try.prog 16 #[.pointer (some ⟨b, 0, none⟩), .string s] w fun e w' => e = .returned (.tuple #[.int .i64 s.size, .nilIface]) ∧ WB B b ok (bs ++ s.data.toList) w' ∧ WK B w w' := by
  obtain ⟨i0, hi, hz0, hz1, hz2⟩ := info_parts infoByte
  have CK := Lib.hid (ck_any B b ok bs w h)
  have hle := h.le
  clear h
  go_enter Try.func16, Try.ntmps16
  go_wp2_with fail
  with_reducible refine CK.out.mono ?_
  rintro e w1 ⟨rfl, ⟨v, hB1, ho1⟩, hk1⟩
  have c0 : w1.cell? ⟨b, 0, none⟩ = some (.pointer (some ⟨b, 0, none⟩)) := hB1.cell 0
  have c1 : w1.cell? ⟨b, 1, none⟩ = some v := hB1.cell 1
  go_wp2_with (at_builtin; refine Lib.wpList_append_own_string _ rfl _ _ 38 9 rfl B 5 i0 Try.underlying38 Try.underlying9 hi hz0 hz1 hz2 _ _ _ rfl ho1 s rfl ?c3 ?c4 ?c5 ?_)
  case c3 => unfold maxLen; omega
  case c4 => omega
  case c5 => have := hk1.bl.size; omega
  intro v' w2 hown' hgrow _
  have hne : v.ownBlock ≠ some b := own_type ho1 hB1 neWB
  have hB2 : Blk w2 b #[.pointer (some ⟨b, 0, none⟩), v, .bool ok] 42 := hB1.grown hgrow hne
  have d0 : w2.cell? ⟨b, 0, none⟩ = some (.pointer (some ⟨b, 0, none⟩)) := hB2.cell 0
  have d1 : w2.cell? ⟨b, 1, none⟩ = some v := hB2.cell 1
  have f1 := hB2.free 1
  have hs : (Lib.strCells s) = Lib.byteCells s.data.toList := rfl
  obtain ⟨ao, n', cap, rfl⟩ : ∃ ao n' cap, v' = .slice ao n' cap := by
    rcases hown'.2 with ⟨hv, _⟩ | ⟨g, cap, cur, hv, _⟩
    · exact ⟨_, _, _, hv⟩
    · exact ⟨_, _, _, hv⟩
  have ho2 : w2.ownsRow B 5 1 (.slice ao n' cap) (bs ++ s.data.toList).length (Lib.byteCells (bs ++ s.data.toList)) := by
    rw [cells_app, List.length_append]
    exact hown'
  have hne2 : (Value.slice ao n' cap).ownBlock ≠ some b := own_type ho2 hB2 neWB
  go_wp2
  go_ret2
  refine ⟨rfl, ⟨hle, _, _, hB2.set 1 _, .inr rfl, own_set ho2 hne2 1 _⟩, ?_⟩
  refine hk1.trans ⟨((own_grown ho1 hgrow (Nat.le_refl _) (by have := hk1.bl.size; omega)).setCell (p := ⟨b, 1, none⟩) hle _), fun q cs t ht hq => ?_⟩
  have h1 : Blk w2 q cs t := hq.grown hgrow (own_type ho1 hq (by simp at ht; exact ht.2))
  refine h1.other (a := ⟨b, 1, none⟩) (fun e => ?_) _
  obtain rfl : q = b := e
  unfold Blk at h1 hB2
  rw [hB2] at h1
  simp only [Option.some.injEq, Obj.cells.injEq] at h1
  rw [← h1.2.1] at ht
  simp at ht
end Go.Proofs.Ytgdbbocfiejlfaa
