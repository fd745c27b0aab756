/- Bytes replaced by texts: the walk. -/
import Derived.Test.YtgdbbocfiejlfaaSeF0
import Derived.Test.YtgdbbocfiejlfaaDpC
import Derived.Test.YtgdbbocfiejlfaaLoJ
import Derived.OwnWalk
import Derived.Lib.SlBytesRow
import Derived.Laws.IdiomCopy
set_option linter.unusedSimpArgs false
set_option linter.unusedVariables false
set_option linter.constructorNameAsVariable false
namespace Go.Proofs.Ytgdbbocfiejlfaa
open Go.RowKit

theorem made_zeros (N : Nat) : (madeCells #[Value.int .u8 0] N).toList = bufL [] N := by
  unfold madeCells bufL
  apply List.ext_getElem
  · simp [Lib.byteCells]
  · intro i h1 h2
    simp [Lib.byteCells, Nat.mod_one]
theorem below_sets {n g : Nat} (hg : n ≤ g) : ∀ (zs : List Value) (o : Nat) (a w : World), Below n a w → Below n a (w.setCells g o zs)
  | [], _, _, _, h => h
  | z :: r, o, a, w, h => below_sets hg r (o + 1) a _ (h.setCell (p := ⟨g, o, none⟩) hg z)
/-- The world of a copy into the buffer: before it, behind it. -/
structure RCp (g : Nat) (d r : List UInt8) (N : Nat) (w w' : World) : Prop where
  bl : Below g w w'
  k1 : Blk w g (bufL d N).toArray 5 → Blk w' g (bufL d N).toArray 5 ∨ Blk w' g (bufL (d ++ r) N).toArray 5
  k2 : Blk w g (bufL (d ++ r) N).toArray 5 → Blk w' g (bufL (d ++ r) N).toArray 5
theorem RCp.keep {g : Nat} {d r : List UInt8} {N : Nat} {w w' : World} (h : RCp g d r N w w') (hj : Blk w g (bufL d N).toArray 5 ∨ Blk w g (bufL (d ++ r) N).toArray 5) : Blk w' g (bufL d N).toArray 5 ∨ Blk w' g (bufL (d ++ r) N).toArray 5 :=
  hj.elim h.k1 fun h2 => .inr (h.k2 h2)
theorem RCp.refl {g : Nat} {d r : List UInt8} {N : Nat} (w : World) : RCp g d r N w w := ⟨Below.refl _ _, .inl, id⟩
theorem RCp.trans {g : Nat} {d r : List UInt8} {N : Nat} {a b c : World} (h1 : RCp g d r N a b) (h2 : RCp g d r N b c) : RCp g d r N a c := ⟨h1.bl.trans h2.bl, fun h => h2.keep (h1.k1 h), fun h => h2.k2 (h1.k2 h)⟩
theorem RCp.drew {g : Nat} {d r : List UInt8} {N : Nat} (w : World) : RCp g d r N w { w with drawn := w.drawn + 1 } := ⟨(Below.refl _ _).drew, .inl, id⟩
theorem copy_step {w : World} {g dn N : Nat} {d r : List UInt8} (D : d.length = dn) (hj : Blk w g (bufL d N).toArray 5 ∨ Blk w g (bufL (d ++ r) N).toArray 5) (hrn : dn + r.length ≤ N) :
    Blk (w.setCells g dn (Lib.byteCells r)) g (bufL (d ++ r) N).toArray 5 ∧ RCp g d r N w (w.setCells g dn (Lib.byteCells r)) := by
  subst D
  have h1 : Blk (w.setCells g d.length (Lib.byteCells r)) g (bufL (d ++ r) N).toArray 5 := by
    rcases hj with h | h
    · have := Blk.sets (w := w) (Lib.byteCells r) d.length _ _ h
      rwa [bufL_put d r N hrn] at this
    · have := Blk.sets (w := w) (Lib.byteCells r) d.length _ _ h
      rwa [bufL_again d r N hrn] at this
  refine ⟨h1, ⟨below_sets (Nat.le_refl _) _ _ _ _ (Below.refl _ _), fun _ => .inr h1, fun _ => h1⟩⟩
def MPcp (g : Nat) (d r : List UInt8) (N : Nat) : RJ.MP (RCp g d r N) := ⟨fun v w => v = .int .i64 (r.length : Int) ∧ Blk w g (bufL (d ++ r) N).toArray 5, fun _ _ _ h hr => ⟨h.1, hr.k2 h.2⟩⟩
theorem ba_size (B : List UInt8) : (⟨B.toArray⟩ : ByteArray).size = B.length := by
  show B.toArray.size = _
  simp
theorem infoB1 : (Try.prog.info? 5).map (·.size) = some 1 := by kernel_rfl
theorem copy_buf {w : World} {g dn N g1 cap1 : Nat} {d r : List UInt8} (D : d.length = dn) (hj : Blk w g (bufL d N).toArray 5 ∨ Blk w g (bufL (d ++ r) N).toArray 5) (hrn : dn + r.length ≤ N) (hs : ∀ j v, (Lib.byteCells r)[j]? = some v → w.cell? ⟨g1, j, none⟩ = some v) (ty : TypeId) :
    (Builtin.copy_ #[38, 38] ty #[.slice (some ⟨g, dn, none⟩) (N - dn) (N - dn), .slice (some ⟨g1, 0, none⟩) r.length cap1]).run Try.prog w = .ok (.int .i64 (r.length : Int)) (w.setCells g dn (Lib.byteCells r)) := by
  have hlen := byteCells_len r
  have hB : ∃ cs : Array Value, cs.size = N ∧ Blk w g cs 5 := by
    rcases hj with h | h
    · exact ⟨_, by simp [bufL_len d N (by omega)], h⟩
    · exact ⟨_, by simp [bufL_len (d ++ r) N (by rw [List.length_append]; omega)], h⟩
  obtain ⟨cs, hcs, hB⟩ := hB
  have := run_copy_cells (P := Try.prog) w 38 38 ty 5 g dn (N - dn) (N - dn) ⟨g1, 0, none⟩ r.length cap1 (Lib.byteCells r) Try.underlying38 infoB1 (by rw [hlen]; exact (Nat.min_eq_left (by omega)).symm)
    (fun j v hv => by rw [Addr.add_lit, Nat.zero_add]; exact hs j v hv)
    (fun j hj' => by rw [hB.cell]; rw [Array.getElem?_eq_getElem (by omega)]; rfl) (fun j _ => hB.free _)
    (fun v hv => by simp [Lib.byteCells] at hv; obtain ⟨a, -, rfl⟩ := hv; rfl)
  rw [this, hlen]
  rfl
theorem eqIn8 (w : World) (d : Nat) (a : Option Addr) (l c : Nat) : (Op.equalIn (d + 1) 38 (.slice a l c) (.slice none 0 0)).run Try.prog w = .ok a.isNone w := by
  have h := Try.underlying38
  cases a <;> simp [Op.equalIn, run_underlying h]
theorem neq_nil8 (a : Option Addr) (l c : Nat) (w : World) : (binOp .neq 38 (.slice a l c) (.slice none 0 0)).run Try.prog w = .ok (.bool (!a.isNone)) w := by
  have h : (Op.equal 38 (.slice a l c) (.slice none 0 0)).run Try.prog w = .ok a.isNone w := eqIn8 w 9999 a l c
  simp [binOp, h]
theorem eql_nil8 (a : Option Addr) (l c : Nat) (w : World) : (binOp .eql 38 (.slice a l c) (.slice none 0 0)).run Try.prog w = .ok (.bool a.isNone) w := by
  have h : (Op.equal 38 (.slice a l c) (.slice none 0 0)).run Try.prog w = .ok a.isNone w := eqIn8 w 9999 a l c
  simp [binOp, h]
theorem at_of (s : ByteArray) (j : Nat) (c : UInt8) (h : s.data.toList[j]? = some c) (hj : j < s.size) : s[j]'hj = c := by
  have h2 : s.data[j]? = some c := by simpa using h
  have h3 : s.data[j]? = some (s[j]'hj) := Array.getElem?_eq_getElem hj
  rw [h3] at h2
  exact Option.some.inj h2
theorem escF_bound {ps : Tab} {ks : List UInt8} (T : TabOk ps ks) : ∀ s : List UInt8, (escF ps s).length ≤ 100 * s.length
  | [] => by simp [escF]
  | c :: s => by
    rw [escF_cons, List.length_append, List.length_cons]
    have ih := escF_bound T s
    have : ((lookT ps c).getD [c]).length ≤ 100 := by
      cases e : lookT ps c with
      | none => simp
      | some r => exact T.len c r e
    omega
theorem zero_ne (n : Nat) : (((n : Int) != 0) = true) ↔ n ≠ 0 := by simp
set_option maxRecDepth 100000 in
set_option maxHeartbeats 8000000 in
theorem replace_any (ps : Tab) (ks : List UInt8) (b : Nat) (s : ByteArray) (w : World) (H : BSR ps ks b w) (T : TabOk ps ks) (hs : s.data.toList.length ≤ 1073741824) :
    Calls Try.prog 93 #[.pointer (some ⟨b, 0, none⟩), .string s] w fun e w' => e = .returned (.string ⟨(escF ps s.data.toList).toArray⟩) ∧ Below w.heap.size w w' := by
  obtain ⟨g, cap, hk, hg, hkc⟩ := H.key
  have HH := Lib.hid H
  have HT := Lib.hid T
  have hb := H.lt
  obtain ⟨l, hl⟩ : ∃ l, s.data.toList = l := ⟨_, rfl⟩
  have hsl : s.size = l.length := by rw [← hl]; rfl
  rw [hl] at hs ⊢
  have HL := Lib.hid hl
  have hkl := T.kl
  have p1 : IntKind.i64.wrap ((ks.length : Int) * 8) = (ks.length : Int) * 8 := IntWalk.i64_in _ (by omega)
  have EL := Lib.hid (esc_len ps ks T.nd T.mem l)
  clear H T hl
  by_cases hc : (ks.length : Int) * 8 ≤ (l.length : Int)
  · have i1 : decide ((ks.length : Int) * 8 ≤ (l.length : Int)) = true := by simpa using hc
    clear hc
    go_enter Try.func93, Try.ntmps93
    go_wp2_with fail
    go_loopg [5, 6, 32] (ks.length + 1) (fun m nn aa ii wr => ∃ j : Nat, j ≤ ks.length ∧ m + j = ks.length + 1 ∧ ii = .int .i64 (j : Int) ∧ nn = .int .i64 ((l.length : Int) + sumT ps l (ks.take j)) ∧ aa = .bool ((ks.take j).any fun k => Lib.countByte l k != 0) ∧ Below w.heap.size w wr)
    case atStart => exact ⟨0, by omega, by omega, rfl, by simp [sumT], rfl, Below.refl _ _⟩
    case round =>
      obtain ⟨j, hj, hmj, rfl, rfl, rfl, hwr⟩ := hrel
      have hj0 : (0 : Int) ≤ (j : Int) := Int.natCast_nonneg _
      by_cases hlt : j < ks.length
      · have i0 : decide ((j : Int) < (ks.length : Int)) = true := by simp; omega
        have i6 : (j : Int) < (ks.length : Int) := by omega
        obtain ⟨k, hjk⟩ : ∃ k, ks[j]? = some k := ⟨ks[j], by simp [hlt]⟩
        have u0 := (hwr.cell (p := ⟨g, j, none⟩) hg).trans (hkc j k hjk)
        have lg := Nat.lt_of_lt_of_le hg hwr.size
        have CC : Hid (∀ w, Calls Try.prog 95 #[.string s, .string ⟨#[k]⟩] w fun e w' => e = .returned (.int .i64 (Lib.countByte l k)) ∧ w = w') := Lib.hid (fun w => by rw [← HL.out]; exact (Try.strings_Count_one s k w).mono fun e w' h => ⟨h.1, h.2.symm⟩)
        obtain ⟨r, hr⟩ : ∃ r, lookT ps k = some r := by
          have h9 := (HT.out.mem k).1 (List.mem_of_getElem? hjk)
          cases e : lookT ps k with
          | none => exact absurd e h9
          | some r => exact ⟨r, rfl⟩
        obtain ⟨g1, cap1, v0, -, -⟩ := HH.out.yes k r hr
        replace v0 := (hwr.cell (p := ⟨b, k.toNat, none⟩) hb).trans v0
        have lb := Nat.lt_of_lt_of_le hb hwr.size
        have hrl := HT.out.len k r hr
        have hmore : moreT ps k = (r.length : Int) - 1 := by unfold moreT; rw [hr]; rfl
        have hsn := sumT_snoc ps l k (ks.take j)
        rw [← take_one ks j k hjk, hmore] at hsn
        have han := any_snoc (fun k => Lib.countByte l k != 0) ks j k hjk
        have hcl := count_le l k
        have hbd := sumT_le HT.out l hs (ks.take j)
        have htl : ((ks.take j).length : Int) ≤ 100 := by rw [List.length_take]; omega
        have hpr := prod_le (c := (Lib.countByte l k : Int)) (m := (r.length : Int) - 1) (by omega) (by omega) (by omega) (by omega)
        generalize Lib.countByte l k = cn at *
        have p2 : IntKind.i64.wrap ((r.length : Int) - 1) = (r.length : Int) - 1 := IntWalk.i64_in _ (by omega)
        have p3 : IntKind.i64.wrap ((cn : Int) * ((r.length : Int) - 1)) = (cn : Int) * ((r.length : Int) - 1) := IntWalk.i64_in _ (by omega)
        have p4 : IntKind.i64.wrap ((l.length : Int) + sumT ps l (ks.take j) + (cn : Int) * ((r.length : Int) - 1)) = (l.length : Int) + sumT ps l (ks.take j) + (cn : Int) * ((r.length : Int) - 1) := IntWalk.i64_in _ (by omega)
        have HS := Lib.hid hsn
        have HAN := Lib.hid han
        clear hsn han hbd htl hpr hmore hr hjk hcl
        have kb : k.toNat < 256 := k.toNat_lt
        have kbI : (k.toNat : Int) < 256 := by omega
        go_wp2_with fail
        with_reducible refine (CC.out _).mono ?_
        rintro e w1 ⟨rfl, rfl⟩
        cases hz : ((cn : Int) != 0)
        · have h0 : cn = 0 := by simpa using hz
          have HS2 := Lib.hid (show sumT ps l (ks.take (j + 1)) = sumT ps l (ks.take j) by rw [HS.out, h0]; simp)
          have HA2 := Lib.hid (show ((ks.take (j + 1)).any fun k => Lib.countByte l k != 0) = ((ks.take j).any fun k => Lib.countByte l k != 0) by rw [HAN.out, h0]; simp)
          clear h0 HS HAN
          go_wp2_with fail
          go_roundg (gk - 1)
          case measure => omega
          case rel => exact ⟨j + 1, by omega, by omega, by go_num, by rw [HS2.out], by rw [HA2.out], hwr⟩
        · have h0 : (cn != 0) = true := by simpa using hz
          have HA2 := Lib.hid (show ((ks.take (j + 1)).any fun k => Lib.countByte l k != 0) = true by rw [HAN.out, h0]; simp)
          clear HAN
          go_wp2_with fail
          refine region_steps 13 [some 41, some 42, some 43, some 44, some 45, some 46, some 47, some 48, some 49, some 50, some 51, some 52, some 53] (by kernel_rfl) (by kernel_rfl) ?_
          -- 0: Op.move (Operand.tmp 5)
          apply ls_val
          · intro x w' hb hpre K hK
            have hc := (bcell hb).1
            clear hpre
            simp only [frL, Act.put, List.setIfInBounds_toArray, List.set_cons_zero, List.set_cons_succ, Nat.zero_add, Nat.reduceAdd] at hK ⊢
            have HK := Lib.hid hK
            clear hK
            refine Held.mk ?_
            go_simp
            exact HK.out _ (Below.refl _ _)
          -- 1: Op.move (Operand.tmp 9)
          apply ls_val
          · intro x w' hb hpre K hK
            have hc := (bcell hb).1
            clear hpre
            simp only [frL, Act.put, List.setIfInBounds_toArray, List.set_cons_zero, List.set_cons_succ, Nat.zero_add, Nat.reduceAdd] at hK ⊢
            have HK := Lib.hid hK
            clear hK
            refine Held.mk ?_
            go_simp
            exact HK.out _ (Below.refl _ _)
          -- 2: Op.move (Operand.tmp 0)
          apply ls_val
          · intro x w' hb hpre K hK
            have hc := (bcell hb).1
            clear hpre
            simp only [frL, Act.put, List.setIfInBounds_toArray, List.set_cons_zero, List.set_cons_succ, Nat.zero_add, Nat.reduceAdd] at hK ⊢
            have HK := Lib.hid hK
            clear hK
            refine Held.mk ?_
            go_simp
            exact HK.out _ (Below.refl _ _)
          -- 3: Op.move (Operand.tmp 8)
          apply ls_val
          · intro x w' hb hpre K hK
            have hc := (bcell hb).1
            clear hpre
            simp only [frL, Act.put, List.setIfInBounds_toArray, List.set_cons_zero, List.set_cons_succ, Nat.zero_add, Nat.reduceAdd] at hK ⊢
            have HK := Lib.hid hK
            clear hK
            refine Held.mk ?_
            go_simp
            exact HK.out _ (Below.refl _ _)
          -- 4: Op.index 9 (Operand.tmp 44) (Operand.const (Value.int IntKind.i64 0))
          apply ls_val (v := .int .u8 (k.toNat : Int))
          · intro x w' hb hpre K hK
            have hc := (bcell hb).1
            simp [preds, Region.binds, phi, MP.val, MP.box, MP.row] at hpre
            simp only [frL, Act.put, List.setIfInBounds_toArray, List.set_cons_zero, List.set_cons_succ, Nat.zero_add, Nat.reduceAdd, hpre] at hK ⊢
            have HK := Lib.hid hK
            clear hK
            refine Held.mk ?_
            go_simp
            exact HK.out _ (Below.refl _ _)
          -- 5: Op.nilCheck (Operand.tmp 43)
          apply ls_val
          · intro x w' hb hpre K hK
            have hc := (bcell hb).1
            simp [preds, Region.binds, phi, MP.val, MP.box, MP.row] at hpre
            simp only [frL, Act.put, List.setIfInBounds_toArray, List.set_cons_zero, List.set_cons_succ, Nat.zero_add, Nat.reduceAdd, hpre] at hK ⊢
            have HK := Lib.hid hK
            clear hK
            refine Held.mk ?_
            go_simp
            exact HK.out _ (Below.refl _ _)
          -- 6: Op.fieldAddr 96 (Operand.tmp 46) 0
          apply ls_val
          · intro x w' hb hpre K hK
            have hc := (bcell hb).1
            simp [preds, Region.binds, phi, MP.val, MP.box, MP.row] at hpre
            simp only [frL, Act.put, List.setIfInBounds_toArray, List.set_cons_zero, List.set_cons_succ, Nat.zero_add, Nat.reduceAdd, hpre] at hK ⊢
            have HK := Lib.hid hK
            clear hK
            refine Held.mk ?_
            go_simp
            exact HK.out _ (Below.refl _ _)
          -- 7: Op.indexAddr 94 (Operand.tmp 47) (Operand.tmp 45)
          apply ls_val
          · intro x w' hb hpre K hK
            have hc := (bcell hb).1
            simp [preds, Region.binds, phi, MP.val, MP.box, MP.row] at hpre
            simp only [frL, Act.put, List.setIfInBounds_toArray, List.set_cons_zero, List.set_cons_succ, Nat.zero_add, Nat.reduceAdd, hpre] at hK ⊢
            have HK := Lib.hid hK
            clear hK
            refine Held.mk ?_
            go_simp
            exact HK.out _ (Below.refl _ _)
          -- 8: Op.load 38 (Operand.tmp 48)
          apply ls_val
          · intro x w' hb hpre K hK
            have hc := (bcell hb).1
            simp [preds, Region.binds, phi, MP.val, MP.box, MP.row] at hpre
            simp only [frL, Act.put, List.setIfInBounds_toArray, List.set_cons_zero, List.set_cons_succ, Nat.zero_add, Nat.reduceAdd, hpre] at hK ⊢
            have HK := Lib.hid hK
            clear hK
            refine Held.mk ?_
            go_simp
            exact HK.out _ (Below.refl _ _)
          -- 9: Op.call { callee := Callee.builtin Builtin.len, args := #[Operand.tmp 49], argTypes := #[3
          apply ls_val
          · intro x w' hb hpre K hK
            have hc := (bcell hb).1
            simp [preds, Region.binds, phi, MP.val, MP.box, MP.row] at hpre
            simp only [frL, Act.put, List.setIfInBounds_toArray, List.set_cons_zero, List.set_cons_succ, Nat.zero_add, Nat.reduceAdd, hpre] at hK ⊢
            have HK := Lib.hid hK
            clear hK
            refine Held.mk ?_
            go_simp
            exact HK.out _ (Below.refl _ _)
          -- 10: Op.binOp BinOp.sub 3 (Operand.tmp 50) (Operand.const (Value.int IntKind.i64 1)) 3
          apply ls_val
          · intro x w' hb hpre K hK
            have hc := (bcell hb).1
            simp [preds, Region.binds, phi, MP.val, MP.box, MP.row] at hpre
            simp only [frL, Act.put, List.setIfInBounds_toArray, List.set_cons_zero, List.set_cons_succ, Nat.zero_add, Nat.reduceAdd, hpre] at hK ⊢
            have HK := Lib.hid hK
            clear hK
            refine Held.mk ?_
            go_simp
            exact HK.out _ (Below.refl _ _)
          -- 11: Op.binOp BinOp.mul 3 (Operand.tmp 42) (Operand.tmp 51) 3
          apply ls_val
          · intro x w' hb hpre K hK
            have hc := (bcell hb).1
            simp [preds, Region.binds, phi, MP.val, MP.box, MP.row] at hpre
            simp only [frL, Act.put, List.setIfInBounds_toArray, List.set_cons_zero, List.set_cons_succ, Nat.zero_add, Nat.reduceAdd, hpre] at hK ⊢
            have HK := Lib.hid hK
            clear hK
            refine Held.mk ?_
            go_simp
            exact HK.out _ (Below.refl _ _)
          -- 12: Op.binOp BinOp.add 3 (Operand.tmp 41) (Operand.tmp 52) 3
          apply ls_val
          · intro x w' hb hpre K hK
            have hc := (bcell hb).1
            simp [preds, Region.binds, phi, MP.val, MP.box, MP.row] at hpre
            simp only [frL, Act.put, List.setIfInBounds_toArray, List.set_cons_zero, List.set_cons_succ, Nat.zero_add, Nat.reduceAdd, hpre] at hK ⊢
            have HK := Lib.hid hK
            clear hK
            refine Held.mk ?_
            go_simp
            exact HK.out _ (Below.refl _ _)
          intro x w' hb hp
          simp only [List.cons_append, List.nil_append, phis, MP.val, MP.box, MP.row, frL, Act.put, List.setIfInBounds_toArray, List.set_cons_zero, List.set_cons_succ, Nat.zero_add, Nat.reduceAdd] at hp ⊢
          obtain ⟨h0, h1, h2, h3, h4, h5, h6, h7, h8, h9, h10, h11, h12, -⟩ := hp
          simp only [h0, h1, h2, h3, h4, h5, h6, h7, h8, h9, h10, h11, h12]
          clear h0 h1 h2 h3 h4 h5 h6 h7 h8 h9 h10 h11 h12
          show wpList Try.prog _ _ [_] _ _
          have hw5 := hwr.trans (hb.mono hwr.size)
          go_wp2_with fail
          go_roundg (gk - 1)
          case measure => omega
          case rel => exact ⟨j + 1, by omega, by omega, by go_num, by rw [HS.out, ← Int.add_assoc], by rw [HA2.out], hw5⟩
      · have i0 : decide ((j : Int) < (ks.length : Int)) = false := by simp; omega
        have HAV : Hid (((ks.take j).any fun k => Lib.countByte l k != 0) = false → escF ps l = l) := Lib.hid (fun h => esc_idle ps ks HT.out.mem l (by rw [List.take_of_length_le (by omega)] at h; exact h))
        have hNN : (l.length : Int) + sumT ps l (ks.take j) = ((escF ps l).length : Int) := by rw [EL.out, List.take_of_length_le (by omega)]
        rw [hNN]
        generalize ((ks.take j).any fun k => Lib.countByte l k != 0) = av at *
        clear hNN hkc EL
        cases av
        · have he := HAV.out rfl
          have hsb : (⟨l.toArray⟩ : ByteArray) = s := by rw [← HL.out]
          clear HAV
          go_wp2_with fail
          go_returns
          exact ⟨by first | (rw [he, hsb]; rfl) | (rw [hsb]; rfl), hwr⟩
        · clear HAV
          obtain ⟨V, hV⟩ : ∃ V, V = wr := ⟨_, rfl⟩
          subst hV
          obtain ⟨i0', hi, hz0, hz1, hz2⟩ := info_parts infoByte
          have HB := Lib.hid (HH.out.on hwr)
          have hNb : (escF ps l).length ≤ 107374182400 := by have := escF_bound HT.out l; omega
          have HE := Lib.hid (rfl : escF ps l = escF ps l)
          obtain ⟨N, hN⟩ : ∃ N, (escF ps l).length = N := ⟨_, rfl⟩
          rw [hN] at hNb
          have HN9 := Lib.hid hN
          rw [hN]
          clear hN
          go_wp2_with (refine wpList_make_full _ rfl _ _ _ rfl V.heap.size 5 i0' (.int .u8 0) 1 Try.underlying38 hi hz0 hz1 .i64 .i64 _ _ N rfl rfl rfl rfl (by rw [hz2]; omega) (by unfold maxLen; omega) (Nat.le_refl _) ?_)
          intro w2 hown hgr
          have hB2 : Blk w2 V.heap.size (bufL [] N).toArray 5 := by
            rcases hown.2 with ⟨h, -⟩ | ⟨g', cap', cur, e9, h1, h2, h3, h4, h5, h6⟩
            · cases h
            · cases e9
              have e8 : cur = (bufL [] N).toArray := by
                have h7 : cur.toList.take (N * 1) = cur.toList := List.take_of_length_le (by simp; omega)
                rw [h7] at h6
                apply Array.toList_inj.1
                rw [h6]
                exact made_zeros N
              rw [e8] at h2
              exact h2
          have hbl2 : Below V.heap.size V w2 := (Below.refl _ _).grown hgr (Nat.le_refl _) (fun k hk => by cases hk)
          have HI0 := Lib.hid (And.intro hbl2 hB2)
          have hbg := HB.out.lt
          have hgz : V.heap.size < w2.heap.size := hB2.lt
          clear hown hgr hB2 hbl2 hz0 hz1 hz2 hi HE i0'
          have HWR := Lib.hid hwr
          clear hwr
          go_wp2_with fail
          go_loopg [13, 14] (l.length + 1) (fun m jj ii wr => ∃ i : Nat, i ≤ l.length ∧ m + i = l.length + 1 ∧ ii = .int .i64 (i : Int) ∧ jj = .int .i64 ((escF ps (l.take i)).length : Int) ∧ Hid (Below V.heap.size V wr ∧ Blk wr V.heap.size (bufL (escF ps (l.take i)) N).toArray 5))
          case atStart => exact ⟨0, by omega, by omega, rfl, rfl, HI0.out⟩
          case round =>
            obtain ⟨i, hi, hmi, rfl, rfl, HI⟩ := hrel
            have hi0 : (0 : Int) ≤ (i : Int) := Int.natCast_nonneg _
            have hd := escF_take ps l i
            rw [HN9.out] at hd
            have hwW := HI.out.1
            have hBW := HI.out.2
            have kW := hBW.lt
            have lbW := Nat.lt_of_lt_of_le hbg hwW.size
            by_cases hlt : i < l.length
            · have i0 : decide ((i : Int) < (l.length : Int)) = true := by simp; omega
              have i6 : (i : Int) < (l.length : Int) := by omega
              obtain ⟨c, hjc⟩ : ∃ c, l[i]? = some c := ⟨l[i], by simp [hlt]⟩
              have hsn := escF_snoc ps l i c hjc
              have hcj : s.data.toList[i]? = some c := by rw [HL.out]; exact hjc
              have hltS : i < s.size := by omega
              have hat : s[i]'hltS = c := at_of s i c hcj hltS
              have kb : c.toNat < 256 := c.toNat_lt
              have kbI : (c.toNat : Int) < 256 := by omega
              have hd2 := escF_take ps l (i + 1)
              rw [HN9.out, hsn, List.length_append] at hd2
              obtain ⟨dn, hdn⟩ : ∃ dn, (escF ps (l.take i)).length = dn := ⟨_, rfl⟩
              rw [hdn] at hd hd2 ⊢
              cases hr : lookT ps c with
              | none =>
                have v0 := (hwW.cell (p := ⟨b, c.toNat, none⟩) hbg).trans (HB.out.no c hr)
                have q22 := fun w => neq_nil8 none 0 0 w
                simp only [Option.isNone_none, Bool.not_true] at q22
                rw [hr] at hsn hd2
                have hd3 : dn + 1 ≤ N := by simpa using hd2
                have i7 : (dn : Int) < (N : Int) := by omega
                have i8 : (0 : Int) ≤ (dn : Int) := Int.natCast_nonneg _
                have hset := hBW.set dn (.int .u8 (c.toNat : Int))
                have hse := setsL_one (escF ps (l.take i)) c N (by rw [hdn]; exact hd3)
                rw [hdn] at hse
                have hba : (bufL (escF ps (l.take i)) N).toArray.setIfInBounds dn (.int .u8 (c.toNat : Int)) = (bufL (escF ps (l.take (i + 1))) N).toArray := by
                  rw [List.setIfInBounds_toArray, hse, hsn]
                  rfl
                rw [hba] at hset
                have HI2 := Lib.hid (And.intro (hwW.setCell (p := ⟨V.heap.size, dn, none⟩) (Nat.le_refl _) (.int .u8 (c.toNat : Int))) hset)
                have hc0 : ∃ u, (bufL (escF ps (l.take i)) N)[dn]? = some u := ⟨(bufL (escF ps (l.take i)) N)[dn]'(by rw [bufL_len _ _ (by omega)]; omega), by simp⟩
                obtain ⟨u, hu⟩ := hc0
                have cu : wr.cell? ⟨V.heap.size, dn, none⟩ = some u := by rw [hBW.cell dn]; simpa using hu
                have fu := hBW.free dn
                have HDN := Lib.hid (show (escF ps (l.take (i + 1))).length = dn + 1 by rw [hsn, List.length_append, hdn]; rfl)
                have p2 : IntKind.i64.wrap ((dn : Int) + 1) = (dn : Int) + 1 := IntWalk.i64_in _ (by omega)
                clear hBW hse hset hba hsn hd2 hu HI hdn hjc hcj hr
                go_wp2_with fail
                go_roundg (gk - 1)
                case measure => omega
                case rel => exact ⟨i + 1, by omega, by omega, by go_num, by rw [HDN.out]; rfl, HI2.out⟩
              | some r =>
                obtain ⟨g1, cap1, v0, hg1, v1⟩ := HB.out.yes c r hr
                replace v0 := (hwW.cell (p := ⟨b, c.toNat, none⟩) hbg).trans v0
                replace v1 := fun j v hv => (hwW.cell (p := ⟨g1, j, none⟩) hg1).trans (v1 j v hv)
                have q22 := fun w => neq_nil8 (some ⟨g1, 0, none⟩) r.length cap1 w
                simp only [Option.isNone_some, Bool.not_false] at q22
                have hr1 := HT.out.ne c r hr
                rw [hr] at hsn hd2
                have hrn : dn + r.length ≤ N := hd2
                have hsn : escF ps (l.take (i + 1)) = escF ps (l.take i) ++ r := hsn
                have hnd : ¬ N = dn := by omega
                have i8 : (0 : Int) ≤ (dn : Int) := Int.natCast_nonneg _
                have i9 : (dn : Int) ≤ (N : Int) := by omega
                have HD := Lib.hid hdn
                have HDN := Lib.hid (show (escF ps (l.take (i + 1))).length = dn + r.length by rw [hsn, List.length_append, hdn])
                have HSN := Lib.hid hsn
                have p2 : IntKind.i64.wrap ((dn : Int) + (r.length : Int)) = (dn : Int) + (r.length : Int) := IntWalk.i64_in _ (by omega)
                have HBW := Lib.hid hBW
                have HWW := Lib.hid hwW
                clear hBW hwW HI hsn hd2 hdn hjc hcj hr
                go_wp2_with fail
                refine RJ.region_steps (R := (RCp V.heap.size (escF ps (l.take i)) r N)) 12 [some 102, some 103, some 104, some 105, some 106, some 107, some 108, some 109, some 110, some 111, some 112, some 113] (fun _ W => Blk W V.heap.size (bufL (escF ps (l.take i)) N).toArray 5 ∨ Blk W V.heap.size (bufL (escF ps (l.take i) ++ r) N).toArray 5) (fun a b c h1 h2 => h1.trans h2) (fun w => RCp.drew w) (.inl HBW.out) (by kernel_rfl) (by kernel_rfl) ?_
                -- 0: Op.move (Operand.tmp 13)
                apply RJ.ls_val (fun x v w1 w2 h hr => hr.keep h)
                · intro x w' hb hpre K hK
                  have z0 := (hb.bl.cell (p := ⟨b, c.toNat, none⟩) hbg).trans v0
                  have z1 := Nat.lt_of_lt_of_le lbW hb.bl.size
                  clear hpre
                  simp only [frL, Act.put, List.setIfInBounds_toArray, List.set_cons_zero, List.set_cons_succ, Nat.zero_add, Nat.reduceAdd] at hK ⊢
                  have HK := Lib.hid hK
                  clear hK
                  refine Held.mk ?_
                  go_simp
                  exact HK.out _ (RCp.refl _)
                -- 1: Op.move (Operand.tmp 12)
                apply RJ.ls_val (fun x v w1 w2 h hr => hr.keep h)
                · intro x w' hb hpre K hK
                  have z0 := (hb.bl.cell (p := ⟨b, c.toNat, none⟩) hbg).trans v0
                  have z1 := Nat.lt_of_lt_of_le lbW hb.bl.size
                  clear hpre
                  simp only [frL, Act.put, List.setIfInBounds_toArray, List.set_cons_zero, List.set_cons_succ, Nat.zero_add, Nat.reduceAdd] at hK ⊢
                  have HK := Lib.hid hK
                  clear hK
                  refine Held.mk ?_
                  go_simp
                  exact HK.out _ (RCp.refl _)
                -- 2: Op.move (Operand.tmp 13)
                apply RJ.ls_val (fun x v w1 w2 h hr => hr.keep h)
                · intro x w' hb hpre K hK
                  have z0 := (hb.bl.cell (p := ⟨b, c.toNat, none⟩) hbg).trans v0
                  have z1 := Nat.lt_of_lt_of_le lbW hb.bl.size
                  clear hpre
                  simp only [frL, Act.put, List.setIfInBounds_toArray, List.set_cons_zero, List.set_cons_succ, Nat.zero_add, Nat.reduceAdd] at hK ⊢
                  have HK := Lib.hid hK
                  clear hK
                  refine Held.mk ?_
                  go_simp
                  exact HK.out _ (RCp.refl _)
                -- 3: Op.slice 38 (Operand.tmp 103) (some (Operand.tmp 104)) none none
                refine RJ.ls_gen (.val (.slice (some ⟨V.heap.size, dn, none⟩) (N - dn) (N - dn))) ?_ ?_
                · intro x w' hb hj hpre K hK
                  have p0 := hpre.1 rfl
                  have p1 := hpre.2.1 rfl
                  clear hpre
                  simp [RJ.phi, RJ.MP.val] at p0 p1
                  simp only [frL, Act.put, List.setIfInBounds_toArray, List.set_cons_zero, List.set_cons_succ, Nat.zero_add, Nat.reduceAdd, p0, p1] at hK ⊢
                  have HK := Lib.hid hK
                  clear hK
                  refine Held.mk ?_
                  go_simp
                  exact HK.out _ _ rfl (hj) (RCp.refl _)
                -- 4: Op.move (Operand.tmp 0)
                apply RJ.ls_val (fun x v w1 w2 h hr => hr.keep h)
                · intro x w' hb hpre K hK
                  have z0 := (hb.bl.cell (p := ⟨b, c.toNat, none⟩) hbg).trans v0
                  have z1 := Nat.lt_of_lt_of_le lbW hb.bl.size
                  clear hpre
                  simp only [frL, Act.put, List.setIfInBounds_toArray, List.set_cons_zero, List.set_cons_succ, Nat.zero_add, Nat.reduceAdd] at hK ⊢
                  have HK := Lib.hid hK
                  clear hK
                  refine Held.mk ?_
                  go_simp
                  exact HK.out _ (RCp.refl _)
                -- 5: Op.move (Operand.tmp 15)
                apply RJ.ls_val (fun x v w1 w2 h hr => hr.keep h)
                · intro x w' hb hpre K hK
                  have z0 := (hb.bl.cell (p := ⟨b, c.toNat, none⟩) hbg).trans v0
                  have z1 := Nat.lt_of_lt_of_le lbW hb.bl.size
                  clear hpre
                  simp only [frL, Act.put, List.setIfInBounds_toArray, List.set_cons_zero, List.set_cons_succ, Nat.zero_add, Nat.reduceAdd] at hK ⊢
                  have HK := Lib.hid hK
                  clear hK
                  refine Held.mk ?_
                  go_simp
                  exact HK.out _ (RCp.refl _)
                -- 6: Op.nilCheck (Operand.tmp 106)
                apply RJ.ls_val (fun x v w1 w2 h hr => hr.keep h)
                · intro x w' hb hpre K hK
                  have z0 := (hb.bl.cell (p := ⟨b, c.toNat, none⟩) hbg).trans v0
                  have z1 := Nat.lt_of_lt_of_le lbW hb.bl.size
                  simp [preds, Region.binds, RJ.phi, RJ.MP.val, MPcp] at hpre
                  simp only [frL, Act.put, List.setIfInBounds_toArray, List.set_cons_zero, List.set_cons_succ, Nat.zero_add, Nat.reduceAdd, hpre] at hK ⊢
                  have HK := Lib.hid hK
                  clear hK
                  refine Held.mk ?_
                  go_simp
                  exact HK.out _ (RCp.refl _)
                -- 7: Op.fieldAddr 96 (Operand.tmp 108) 0
                apply RJ.ls_val (fun x v w1 w2 h hr => hr.keep h)
                · intro x w' hb hpre K hK
                  have z0 := (hb.bl.cell (p := ⟨b, c.toNat, none⟩) hbg).trans v0
                  have z1 := Nat.lt_of_lt_of_le lbW hb.bl.size
                  simp [preds, Region.binds, RJ.phi, RJ.MP.val, MPcp] at hpre
                  simp only [frL, Act.put, List.setIfInBounds_toArray, List.set_cons_zero, List.set_cons_succ, Nat.zero_add, Nat.reduceAdd, hpre] at hK ⊢
                  have HK := Lib.hid hK
                  clear hK
                  refine Held.mk ?_
                  go_simp
                  exact HK.out _ (RCp.refl _)
                -- 8: Op.indexAddr 94 (Operand.tmp 109) (Operand.tmp 107)
                apply RJ.ls_val (fun x v w1 w2 h hr => hr.keep h)
                · intro x w' hb hpre K hK
                  have z0 := (hb.bl.cell (p := ⟨b, c.toNat, none⟩) hbg).trans v0
                  have z1 := Nat.lt_of_lt_of_le lbW hb.bl.size
                  simp [preds, Region.binds, RJ.phi, RJ.MP.val, MPcp] at hpre
                  simp only [frL, Act.put, List.setIfInBounds_toArray, List.set_cons_zero, List.set_cons_succ, Nat.zero_add, Nat.reduceAdd, hpre] at hK ⊢
                  have HK := Lib.hid hK
                  clear hK
                  refine Held.mk ?_
                  go_simp
                  exact HK.out _ (RCp.refl _)
                -- 9: Op.load 38 (Operand.tmp 110)
                apply RJ.ls_val (fun x v w1 w2 h hr => hr.keep h)
                · intro x w' hb hpre K hK
                  have z0 := (hb.bl.cell (p := ⟨b, c.toNat, none⟩) hbg).trans v0
                  have z1 := Nat.lt_of_lt_of_le lbW hb.bl.size
                  simp [preds, Region.binds, RJ.phi, RJ.MP.val, MPcp] at hpre
                  simp only [frL, Act.put, List.setIfInBounds_toArray, List.set_cons_zero, List.set_cons_succ, Nat.zero_add, Nat.reduceAdd, hpre] at hK ⊢
                  have HK := Lib.hid hK
                  clear hK
                  refine Held.mk ?_
                  go_simp
                  exact HK.out _ (RCp.refl _)
                -- 10: Op.call { callee := Callee.builtin Builtin.copy, args := #[Operand.tmp 105, Oper
                refine RJ.ls_gen (MPcp V.heap.size (escF ps (l.take i)) r N) ?_ ?_
                · intro x w' hb hj hpre K hK
                  have p0 := hpre.1 rfl
                  have p1 := hpre.2.1 rfl
                  clear hpre
                  simp [RJ.phi, RJ.MP.val] at p0 p1
                  have hcp := copy_buf (w := w') (g := V.heap.size) (dn := dn) (N := N) (g1 := g1) (cap1 := cap1) (r := r) (D := HD.out) hj hrn (fun j v hv => (hb.bl.cell (p := ⟨g1, j, none⟩) hg1).trans (v1 j v hv))
                  have hst := copy_step (D := HD.out) hj hrn
                  simp only [frL, Act.put, List.setIfInBounds_toArray, List.set_cons_zero, List.set_cons_succ, Nat.zero_add, Nat.reduceAdd, p0, p1] at hK ⊢
                  have HK := Lib.hid hK
                  clear hK
                  refine Held.mk ?_
                  go_simp
                  exact HK.out _ _ ⟨rfl, hst.1⟩ (.inr hst.1) hst.2
                -- 11: Op.binOp BinOp.add 3 (Operand.tmp 102) (Operand.tmp 112) 3
                apply RJ.ls_val (fun x v w1 w2 h hr => hr.keep h)
                · intro x w' hb hpre K hK
                  have z0 := (hb.bl.cell (p := ⟨b, c.toNat, none⟩) hbg).trans v0
                  have z1 := Nat.lt_of_lt_of_le lbW hb.bl.size
                  simp [preds, Region.binds, RJ.phi, RJ.MP.val, MPcp] at hpre
                  simp only [frL, Act.put, List.setIfInBounds_toArray, List.set_cons_zero, List.set_cons_succ, Nat.zero_add, Nat.reduceAdd, hpre] at hK ⊢
                  have HK := Lib.hid hK
                  clear hK
                  refine Held.mk ?_
                  go_simp
                  exact HK.out _ (RCp.refl _)
                intro x w' hb hp hJ
                simp only [List.cons_append, List.nil_append, RJ.phis, RJ.MP.val, frL, Act.put, List.setIfInBounds_toArray, List.set_cons_zero, List.set_cons_succ, Nat.zero_add, Nat.reduceAdd] at hp ⊢
                obtain ⟨h0, h1, h2, h3, h4, h5, h6, h7, h8, h9, h10, h11, -⟩ := hp
                simp only [h0, h1, h2, h4, h5, h6, h7, h8, h9, h11]
                clear h0 h1 h2 h4 h5 h6 h7 h8 h9 h11
                obtain ⟨e10, hB10⟩ : x 10 = .int .i64 (r.length : Int) ∧ Blk w' V.heap.size (bufL (escF ps (l.take i) ++ r) N).toArray 5 := h10
                have e3 : x 3 = .slice (some ⟨V.heap.size, dn, none⟩) (N - dn) (N - dn) := h3
                simp only [e10, e3]
                have HI2 : Hid (Below V.heap.size V w' ∧ Blk w' V.heap.size (bufL (escF ps (l.take (i + 1))) N).toArray 5) := by
                  unfold Hid
                  rw [HSN.out]
                  exact ⟨HWW.out.trans hb.bl, hB10⟩
                clear hB10 hb hJ h3 HBW HWW
                show wpList Try.prog _ _ [_] _ _
                go_wp2_with fail
                go_roundg (gk - 1)
                case measure => omega
                case rel => exact ⟨i + 1, by omega, by omega, by go_num, by rw [HDN.out]; rfl, HI2.out⟩
            · have i0 : decide ((i : Int) < (l.length : Int)) = false := by simp; omega
              have hfin : Lib.Bytes wr V.heap.size 0 ⟨(escF ps l).toArray⟩ := by
                intro q hq
                have hq' : q < (escF ps l).length := by rw [ba_size] at hq; exact hq
                rw [Nat.zero_add, hBW.cell q]
                have e1 : bufL (escF ps (l.take i)) N = Lib.byteCells (escF ps l) := by
                  rw [List.take_of_length_le (by omega), ← HN9.out]
                  exact bufL_full _
                rw [e1]
                simp only [List.getElem?_toArray]
                unfold Lib.byteCells
                rw [List.getElem?_map, List.getElem?_eq_getElem hq']
                rfl
              have hcv := fun c => Lib.run_convert_whole (P := Try.prog) wr 38 5 9 Try.underlying38 Try.underlying5 Try.underlying9 V.heap.size 0 ⟨(escF ps l).toArray⟩ hfin c
              have hNs : (⟨(escF ps l).toArray⟩ : ByteArray).size = N := by rw [← HN9.out]; exact ba_size _
              rw [hNs] at hcv
              have hwf := HI.out.1
              clear hfin hBW hwW HI
              go_wp2_with fail
              go_returns
              exact ⟨rfl, HWR.out.trans (hwf.mono HWR.out.size)⟩
  · have i1 : decide ((ks.length : Int) * 8 ≤ (l.length : Int)) = false := by simpa using hc
    clear hc
    go_enter Try.func93, Try.ntmps93
    go_wp2_with fail
    go_loopg [5, 6, 10] (l.length + 1) (fun m nn aa ii wr => ∃ (j : Nat) (n : Int), j ≤ l.length ∧ m + j = l.length + 1 ∧ ii = .int .i64 (j : Int) ∧ nn = .int .i64 n ∧ aa = .bool ((l.take j).any fun c => (lookT ps c).isSome) ∧ wr = w ∧ Hid (n = (l.length : Int) + ((escF ps (l.take j)).length : Int) - (j : Int)))
    case atStart => exact ⟨0, (l.length : Int), by omega, by omega, rfl, rfl, rfl, rfl, by unfold Hid; simp [escF]⟩
    case round =>
      obtain ⟨j, n, hj, hmj, rfl, rfl, rfl, rfl, HN⟩ := hrel
      have hj0 : (0 : Int) ≤ (j : Int) := Int.natCast_nonneg _
      by_cases hlt : j < l.length
      · have i0 : decide ((j : Int) < (l.length : Int)) = true := by simp; omega
        have i6 : (j : Int) < (l.length : Int) := by omega
        obtain ⟨c, hjc⟩ : ∃ c, l[j]? = some c := ⟨l[j], by simp [hlt]⟩
        have hsn := escF_snoc ps l j c hjc
        have han := any_snoc (fun c => (lookT ps c).isSome) l j c hjc
        have hcj : s.data.toList[j]? = some c := by rw [HL.out]; exact hjc
        have hltS : j < s.size := by omega
        have hat : s[j]'hltS = c := at_of s j c hcj hltS
        have hnx := HN.out
        have htk := escF_take ps l j
        have htk2 := escF_take ps l (j + 1)
        have htl : ((escF ps (l.take j)).length : Int) ≤ 107374182400 := by
          have := escF_bound HT.out (l.take j)
          rw [List.length_take] at this
          omega
        have kb : c.toNat < 256 := c.toNat_lt
        have kbI : (c.toNat : Int) < 256 := by omega
        have hnx0 : -1 ≤ n := by rw [hnx]; omega
        have hnx1 : n ≤ 1099511627776 := by rw [hnx]; omega
        cases hr : lookT ps c with
        | none =>
          have v0 := HH.out.no c hr
          have q22 := fun w => neq_nil8 none 0 0 w
          simp only [Option.isNone_none, Bool.not_true] at q22
          rw [hr] at hsn han
          have HN2 : Hid (n = (l.length : Int) + ((escF ps (l.take (j + 1))).length : Int) - ((j + 1 : Nat) : Int)) := by
            unfold Hid
            rw [hsn, hnx, List.length_append]
            simp
            omega
          have HA2 := Lib.hid (show ((l.take (j + 1)).any fun c => (lookT ps c).isSome) = ((l.take j).any fun c => (lookT ps c).isSome) by rw [han]; simp)
          clear hsn han hnx hnx0 hnx1 htk htk2 htl hjc hcj HN hr
          go_wp2_with fail
          go_roundg (gk - 1)
          case measure => omega
          case rel => exact ⟨j + 1, n, by omega, by omega, by go_num, rfl, by rw [HA2.out], rfl, HN2⟩
        | some r =>
          obtain ⟨g1, cap1, v0, -, -⟩ := HH.out.yes c r hr
          have hrl := HT.out.len c r hr
          have q22 := fun w => neq_nil8 (some ⟨g1, 0, none⟩) r.length cap1 w
          simp only [Option.isNone_some, Bool.not_false] at q22
          rw [hr] at hsn han
          have p2 : IntKind.i64.wrap ((r.length : Int) - 1) = (r.length : Int) - 1 := IntWalk.i64_in _ (by omega)
          have p4 : IntKind.i64.wrap (n + ((r.length : Int) - 1)) = n + ((r.length : Int) - 1) := IntWalk.i64_in _ (by omega)
          have HN2 : Hid (n + ((r.length : Int) - 1) = (l.length : Int) + ((escF ps (l.take (j + 1))).length : Int) - ((j + 1 : Nat) : Int)) := by
            unfold Hid
            rw [hsn, hnx, List.length_append]
            simp
            omega
          have HA2 := Lib.hid (show ((l.take (j + 1)).any fun c => (lookT ps c).isSome) = true by rw [han]; simp)
          clear hsn han hnx hnx0 hnx1 htk htk2 htl hjc hcj HN hr
          go_wp2_with fail
          go_roundg (gk - 1)
          case measure => omega
          case rel => exact ⟨j + 1, _, by omega, by omega, by go_num, rfl, by rw [HA2.out], rfl, HN2⟩
      · have i0 : decide ((j : Int) < (l.length : Int)) = false := by simp; omega
        have HAV : Hid (((l.take j).any fun c => (lookT ps c).isSome) = false → escF ps l = l) := Lib.hid (fun h => esc_idle2 ps l (by rw [List.take_of_length_le (by omega)] at h; exact h))
        have hNN : n = ((escF ps l).length : Int) := by rw [HN.out, List.take_of_length_le (by omega)]; omega
        rw [hNN]
        generalize ((l.take j).any fun c => (lookT ps c).isSome) = av at *
        have hwr : Below wr.heap.size wr wr := Below.refl _ _
        clear hNN hkc EL HN
        cases av
        · have he := HAV.out rfl
          have hsb : (⟨l.toArray⟩ : ByteArray) = s := by rw [← HL.out]
          clear HAV
          go_wp2_with fail
          go_returns
          exact ⟨by first | (rw [he, hsb]; rfl) | (rw [hsb]; rfl), hwr⟩
        · clear HAV
          obtain ⟨V, hV⟩ : ∃ V, V = wr := ⟨_, rfl⟩
          subst hV
          obtain ⟨i0', hi, hz0, hz1, hz2⟩ := info_parts infoByte
          have HB := Lib.hid (HH.out.on hwr)
          have hNb : (escF ps l).length ≤ 107374182400 := by have := escF_bound HT.out l; omega
          have HE := Lib.hid (rfl : escF ps l = escF ps l)
          obtain ⟨N, hN⟩ : ∃ N, (escF ps l).length = N := ⟨_, rfl⟩
          rw [hN] at hNb
          have HN9 := Lib.hid hN
          rw [hN]
          clear hN
          go_wp2_with (refine wpList_make_full _ rfl _ _ _ rfl V.heap.size 5 i0' (.int .u8 0) 1 Try.underlying38 hi hz0 hz1 .i64 .i64 _ _ N rfl rfl rfl rfl (by rw [hz2]; omega) (by unfold maxLen; omega) (Nat.le_refl _) ?_)
          intro w2 hown hgr
          have hB2 : Blk w2 V.heap.size (bufL [] N).toArray 5 := by
            rcases hown.2 with ⟨h, -⟩ | ⟨g', cap', cur, e9, h1, h2, h3, h4, h5, h6⟩
            · cases h
            · cases e9
              have e8 : cur = (bufL [] N).toArray := by
                have h7 : cur.toList.take (N * 1) = cur.toList := List.take_of_length_le (by simp; omega)
                rw [h7] at h6
                apply Array.toList_inj.1
                rw [h6]
                exact made_zeros N
              rw [e8] at h2
              exact h2
          have hbl2 : Below V.heap.size V w2 := (Below.refl _ _).grown hgr (Nat.le_refl _) (fun k hk => by cases hk)
          have HI0 := Lib.hid (And.intro hbl2 hB2)
          have hbg := HB.out.lt
          have hgz : V.heap.size < w2.heap.size := hB2.lt
          clear hown hgr hB2 hbl2 hz0 hz1 hz2 hi HE i0'
          have HWR := Lib.hid hwr
          clear hwr
          go_wp2_with fail
          go_loopg [13, 14] (l.length + 1) (fun m jj ii wr => ∃ i : Nat, i ≤ l.length ∧ m + i = l.length + 1 ∧ ii = .int .i64 (i : Int) ∧ jj = .int .i64 ((escF ps (l.take i)).length : Int) ∧ Hid (Below V.heap.size V wr ∧ Blk wr V.heap.size (bufL (escF ps (l.take i)) N).toArray 5))
          case atStart => exact ⟨0, by omega, by omega, rfl, rfl, HI0.out⟩
          case round =>
            obtain ⟨i, hi, hmi, rfl, rfl, HI⟩ := hrel
            have hi0 : (0 : Int) ≤ (i : Int) := Int.natCast_nonneg _
            have hd := escF_take ps l i
            rw [HN9.out] at hd
            have hwW := HI.out.1
            have hBW := HI.out.2
            have kW := hBW.lt
            have lbW := Nat.lt_of_lt_of_le hbg hwW.size
            by_cases hlt : i < l.length
            · have i0 : decide ((i : Int) < (l.length : Int)) = true := by simp; omega
              have i6 : (i : Int) < (l.length : Int) := by omega
              obtain ⟨c, hjc⟩ : ∃ c, l[i]? = some c := ⟨l[i], by simp [hlt]⟩
              have hsn := escF_snoc ps l i c hjc
              have hcj : s.data.toList[i]? = some c := by rw [HL.out]; exact hjc
              have hltS : i < s.size := by omega
              have hat : s[i]'hltS = c := at_of s i c hcj hltS
              have kb : c.toNat < 256 := c.toNat_lt
              have kbI : (c.toNat : Int) < 256 := by omega
              have hd2 := escF_take ps l (i + 1)
              rw [HN9.out, hsn, List.length_append] at hd2
              obtain ⟨dn, hdn⟩ : ∃ dn, (escF ps (l.take i)).length = dn := ⟨_, rfl⟩
              rw [hdn] at hd hd2 ⊢
              cases hr : lookT ps c with
              | none =>
                have v0 := (hwW.cell (p := ⟨b, c.toNat, none⟩) hbg).trans (HB.out.no c hr)
                have q22 := fun w => neq_nil8 none 0 0 w
                simp only [Option.isNone_none, Bool.not_true] at q22
                rw [hr] at hsn hd2
                have hd3 : dn + 1 ≤ N := by simpa using hd2
                have i7 : (dn : Int) < (N : Int) := by omega
                have i8 : (0 : Int) ≤ (dn : Int) := Int.natCast_nonneg _
                have hset := hBW.set dn (.int .u8 (c.toNat : Int))
                have hse := setsL_one (escF ps (l.take i)) c N (by rw [hdn]; exact hd3)
                rw [hdn] at hse
                have hba : (bufL (escF ps (l.take i)) N).toArray.setIfInBounds dn (.int .u8 (c.toNat : Int)) = (bufL (escF ps (l.take (i + 1))) N).toArray := by
                  rw [List.setIfInBounds_toArray, hse, hsn]
                  rfl
                rw [hba] at hset
                have HI2 := Lib.hid (And.intro (hwW.setCell (p := ⟨V.heap.size, dn, none⟩) (Nat.le_refl _) (.int .u8 (c.toNat : Int))) hset)
                have hc0 : ∃ u, (bufL (escF ps (l.take i)) N)[dn]? = some u := ⟨(bufL (escF ps (l.take i)) N)[dn]'(by rw [bufL_len _ _ (by omega)]; omega), by simp⟩
                obtain ⟨u, hu⟩ := hc0
                have cu : wr.cell? ⟨V.heap.size, dn, none⟩ = some u := by rw [hBW.cell dn]; simpa using hu
                have fu := hBW.free dn
                have HDN := Lib.hid (show (escF ps (l.take (i + 1))).length = dn + 1 by rw [hsn, List.length_append, hdn]; rfl)
                have p2 : IntKind.i64.wrap ((dn : Int) + 1) = (dn : Int) + 1 := IntWalk.i64_in _ (by omega)
                clear hBW hse hset hba hsn hd2 hu HI hdn hjc hcj hr
                go_wp2_with fail
                go_roundg (gk - 1)
                case measure => omega
                case rel => exact ⟨i + 1, by omega, by omega, by go_num, by rw [HDN.out]; rfl, HI2.out⟩
              | some r =>
                obtain ⟨g1, cap1, v0, hg1, v1⟩ := HB.out.yes c r hr
                replace v0 := (hwW.cell (p := ⟨b, c.toNat, none⟩) hbg).trans v0
                replace v1 := fun j v hv => (hwW.cell (p := ⟨g1, j, none⟩) hg1).trans (v1 j v hv)
                have q22 := fun w => neq_nil8 (some ⟨g1, 0, none⟩) r.length cap1 w
                simp only [Option.isNone_some, Bool.not_false] at q22
                have hr1 := HT.out.ne c r hr
                rw [hr] at hsn hd2
                have hrn : dn + r.length ≤ N := hd2
                have hsn : escF ps (l.take (i + 1)) = escF ps (l.take i) ++ r := hsn
                have hnd : ¬ N = dn := by omega
                have i8 : (0 : Int) ≤ (dn : Int) := Int.natCast_nonneg _
                have i9 : (dn : Int) ≤ (N : Int) := by omega
                have HD := Lib.hid hdn
                have HDN := Lib.hid (show (escF ps (l.take (i + 1))).length = dn + r.length by rw [hsn, List.length_append, hdn])
                have HSN := Lib.hid hsn
                have p2 : IntKind.i64.wrap ((dn : Int) + (r.length : Int)) = (dn : Int) + (r.length : Int) := IntWalk.i64_in _ (by omega)
                have HBW := Lib.hid hBW
                have HWW := Lib.hid hwW
                clear hBW hwW HI hsn hd2 hdn hjc hcj hr
                go_wp2_with fail
                refine RJ.region_steps (R := (RCp V.heap.size (escF ps (l.take i)) r N)) 12 [some 102, some 103, some 104, some 105, some 106, some 107, some 108, some 109, some 110, some 111, some 112, some 113] (fun _ W => Blk W V.heap.size (bufL (escF ps (l.take i)) N).toArray 5 ∨ Blk W V.heap.size (bufL (escF ps (l.take i) ++ r) N).toArray 5) (fun a b c h1 h2 => h1.trans h2) (fun w => RCp.drew w) (.inl HBW.out) (by kernel_rfl) (by kernel_rfl) ?_
                -- 0: Op.move (Operand.tmp 13)
                apply RJ.ls_val (fun x v w1 w2 h hr => hr.keep h)
                · intro x w' hb hpre K hK
                  have z0 := (hb.bl.cell (p := ⟨b, c.toNat, none⟩) hbg).trans v0
                  have z1 := Nat.lt_of_lt_of_le lbW hb.bl.size
                  clear hpre
                  simp only [frL, Act.put, List.setIfInBounds_toArray, List.set_cons_zero, List.set_cons_succ, Nat.zero_add, Nat.reduceAdd] at hK ⊢
                  have HK := Lib.hid hK
                  clear hK
                  refine Held.mk ?_
                  go_simp
                  exact HK.out _ (RCp.refl _)
                -- 1: Op.move (Operand.tmp 12)
                apply RJ.ls_val (fun x v w1 w2 h hr => hr.keep h)
                · intro x w' hb hpre K hK
                  have z0 := (hb.bl.cell (p := ⟨b, c.toNat, none⟩) hbg).trans v0
                  have z1 := Nat.lt_of_lt_of_le lbW hb.bl.size
                  clear hpre
                  simp only [frL, Act.put, List.setIfInBounds_toArray, List.set_cons_zero, List.set_cons_succ, Nat.zero_add, Nat.reduceAdd] at hK ⊢
                  have HK := Lib.hid hK
                  clear hK
                  refine Held.mk ?_
                  go_simp
                  exact HK.out _ (RCp.refl _)
                -- 2: Op.move (Operand.tmp 13)
                apply RJ.ls_val (fun x v w1 w2 h hr => hr.keep h)
                · intro x w' hb hpre K hK
                  have z0 := (hb.bl.cell (p := ⟨b, c.toNat, none⟩) hbg).trans v0
                  have z1 := Nat.lt_of_lt_of_le lbW hb.bl.size
                  clear hpre
                  simp only [frL, Act.put, List.setIfInBounds_toArray, List.set_cons_zero, List.set_cons_succ, Nat.zero_add, Nat.reduceAdd] at hK ⊢
                  have HK := Lib.hid hK
                  clear hK
                  refine Held.mk ?_
                  go_simp
                  exact HK.out _ (RCp.refl _)
                -- 3: Op.slice 38 (Operand.tmp 103) (some (Operand.tmp 104)) none none
                refine RJ.ls_gen (.val (.slice (some ⟨V.heap.size, dn, none⟩) (N - dn) (N - dn))) ?_ ?_
                · intro x w' hb hj hpre K hK
                  have p0 := hpre.1 rfl
                  have p1 := hpre.2.1 rfl
                  clear hpre
                  simp [RJ.phi, RJ.MP.val] at p0 p1
                  simp only [frL, Act.put, List.setIfInBounds_toArray, List.set_cons_zero, List.set_cons_succ, Nat.zero_add, Nat.reduceAdd, p0, p1] at hK ⊢
                  have HK := Lib.hid hK
                  clear hK
                  refine Held.mk ?_
                  go_simp
                  exact HK.out _ _ rfl (hj) (RCp.refl _)
                -- 4: Op.move (Operand.tmp 0)
                apply RJ.ls_val (fun x v w1 w2 h hr => hr.keep h)
                · intro x w' hb hpre K hK
                  have z0 := (hb.bl.cell (p := ⟨b, c.toNat, none⟩) hbg).trans v0
                  have z1 := Nat.lt_of_lt_of_le lbW hb.bl.size
                  clear hpre
                  simp only [frL, Act.put, List.setIfInBounds_toArray, List.set_cons_zero, List.set_cons_succ, Nat.zero_add, Nat.reduceAdd] at hK ⊢
                  have HK := Lib.hid hK
                  clear hK
                  refine Held.mk ?_
                  go_simp
                  exact HK.out _ (RCp.refl _)
                -- 5: Op.move (Operand.tmp 15)
                apply RJ.ls_val (fun x v w1 w2 h hr => hr.keep h)
                · intro x w' hb hpre K hK
                  have z0 := (hb.bl.cell (p := ⟨b, c.toNat, none⟩) hbg).trans v0
                  have z1 := Nat.lt_of_lt_of_le lbW hb.bl.size
                  clear hpre
                  simp only [frL, Act.put, List.setIfInBounds_toArray, List.set_cons_zero, List.set_cons_succ, Nat.zero_add, Nat.reduceAdd] at hK ⊢
                  have HK := Lib.hid hK
                  clear hK
                  refine Held.mk ?_
                  go_simp
                  exact HK.out _ (RCp.refl _)
                -- 6: Op.nilCheck (Operand.tmp 106)
                apply RJ.ls_val (fun x v w1 w2 h hr => hr.keep h)
                · intro x w' hb hpre K hK
                  have z0 := (hb.bl.cell (p := ⟨b, c.toNat, none⟩) hbg).trans v0
                  have z1 := Nat.lt_of_lt_of_le lbW hb.bl.size
                  simp [preds, Region.binds, RJ.phi, RJ.MP.val, MPcp] at hpre
                  simp only [frL, Act.put, List.setIfInBounds_toArray, List.set_cons_zero, List.set_cons_succ, Nat.zero_add, Nat.reduceAdd, hpre] at hK ⊢
                  have HK := Lib.hid hK
                  clear hK
                  refine Held.mk ?_
                  go_simp
                  exact HK.out _ (RCp.refl _)
                -- 7: Op.fieldAddr 96 (Operand.tmp 108) 0
                apply RJ.ls_val (fun x v w1 w2 h hr => hr.keep h)
                · intro x w' hb hpre K hK
                  have z0 := (hb.bl.cell (p := ⟨b, c.toNat, none⟩) hbg).trans v0
                  have z1 := Nat.lt_of_lt_of_le lbW hb.bl.size
                  simp [preds, Region.binds, RJ.phi, RJ.MP.val, MPcp] at hpre
                  simp only [frL, Act.put, List.setIfInBounds_toArray, List.set_cons_zero, List.set_cons_succ, Nat.zero_add, Nat.reduceAdd, hpre] at hK ⊢
                  have HK := Lib.hid hK
                  clear hK
                  refine Held.mk ?_
                  go_simp
                  exact HK.out _ (RCp.refl _)
                -- 8: Op.indexAddr 94 (Operand.tmp 109) (Operand.tmp 107)
                apply RJ.ls_val (fun x v w1 w2 h hr => hr.keep h)
                · intro x w' hb hpre K hK
                  have z0 := (hb.bl.cell (p := ⟨b, c.toNat, none⟩) hbg).trans v0
                  have z1 := Nat.lt_of_lt_of_le lbW hb.bl.size
                  simp [preds, Region.binds, RJ.phi, RJ.MP.val, MPcp] at hpre
                  simp only [frL, Act.put, List.setIfInBounds_toArray, List.set_cons_zero, List.set_cons_succ, Nat.zero_add, Nat.reduceAdd, hpre] at hK ⊢
                  have HK := Lib.hid hK
                  clear hK
                  refine Held.mk ?_
                  go_simp
                  exact HK.out _ (RCp.refl _)
                -- 9: Op.load 38 (Operand.tmp 110)
                apply RJ.ls_val (fun x v w1 w2 h hr => hr.keep h)
                · intro x w' hb hpre K hK
                  have z0 := (hb.bl.cell (p := ⟨b, c.toNat, none⟩) hbg).trans v0
                  have z1 := Nat.lt_of_lt_of_le lbW hb.bl.size
                  simp [preds, Region.binds, RJ.phi, RJ.MP.val, MPcp] at hpre
                  simp only [frL, Act.put, List.setIfInBounds_toArray, List.set_cons_zero, List.set_cons_succ, Nat.zero_add, Nat.reduceAdd, hpre] at hK ⊢
                  have HK := Lib.hid hK
                  clear hK
                  refine Held.mk ?_
                  go_simp
                  exact HK.out _ (RCp.refl _)
                -- 10: Op.call { callee := Callee.builtin Builtin.copy, args := #[Operand.tmp 105, Oper
                refine RJ.ls_gen (MPcp V.heap.size (escF ps (l.take i)) r N) ?_ ?_
                · intro x w' hb hj hpre K hK
                  have p0 := hpre.1 rfl
                  have p1 := hpre.2.1 rfl
                  clear hpre
                  simp [RJ.phi, RJ.MP.val] at p0 p1
                  have hcp := copy_buf (w := w') (g := V.heap.size) (dn := dn) (N := N) (g1 := g1) (cap1 := cap1) (r := r) (D := HD.out) hj hrn (fun j v hv => (hb.bl.cell (p := ⟨g1, j, none⟩) hg1).trans (v1 j v hv))
                  have hst := copy_step (D := HD.out) hj hrn
                  simp only [frL, Act.put, List.setIfInBounds_toArray, List.set_cons_zero, List.set_cons_succ, Nat.zero_add, Nat.reduceAdd, p0, p1] at hK ⊢
                  have HK := Lib.hid hK
                  clear hK
                  refine Held.mk ?_
                  go_simp
                  exact HK.out _ _ ⟨rfl, hst.1⟩ (.inr hst.1) hst.2
                -- 11: Op.binOp BinOp.add 3 (Operand.tmp 102) (Operand.tmp 112) 3
                apply RJ.ls_val (fun x v w1 w2 h hr => hr.keep h)
                · intro x w' hb hpre K hK
                  have z0 := (hb.bl.cell (p := ⟨b, c.toNat, none⟩) hbg).trans v0
                  have z1 := Nat.lt_of_lt_of_le lbW hb.bl.size
                  simp [preds, Region.binds, RJ.phi, RJ.MP.val, MPcp] at hpre
                  simp only [frL, Act.put, List.setIfInBounds_toArray, List.set_cons_zero, List.set_cons_succ, Nat.zero_add, Nat.reduceAdd, hpre] at hK ⊢
                  have HK := Lib.hid hK
                  clear hK
                  refine Held.mk ?_
                  go_simp
                  exact HK.out _ (RCp.refl _)
                intro x w' hb hp hJ
                simp only [List.cons_append, List.nil_append, RJ.phis, RJ.MP.val, frL, Act.put, List.setIfInBounds_toArray, List.set_cons_zero, List.set_cons_succ, Nat.zero_add, Nat.reduceAdd] at hp ⊢
                obtain ⟨h0, h1, h2, h3, h4, h5, h6, h7, h8, h9, h10, h11, -⟩ := hp
                simp only [h0, h1, h2, h4, h5, h6, h7, h8, h9, h11]
                clear h0 h1 h2 h4 h5 h6 h7 h8 h9 h11
                obtain ⟨e10, hB10⟩ : x 10 = .int .i64 (r.length : Int) ∧ Blk w' V.heap.size (bufL (escF ps (l.take i) ++ r) N).toArray 5 := h10
                have e3 : x 3 = .slice (some ⟨V.heap.size, dn, none⟩) (N - dn) (N - dn) := h3
                simp only [e10, e3]
                have HI2 : Hid (Below V.heap.size V w' ∧ Blk w' V.heap.size (bufL (escF ps (l.take (i + 1))) N).toArray 5) := by
                  unfold Hid
                  rw [HSN.out]
                  exact ⟨HWW.out.trans hb.bl, hB10⟩
                clear hB10 hb hJ h3 HBW HWW
                show wpList Try.prog _ _ [_] _ _
                go_wp2_with fail
                go_roundg (gk - 1)
                case measure => omega
                case rel => exact ⟨i + 1, by omega, by omega, by go_num, by rw [HDN.out]; rfl, HI2.out⟩
            · have i0 : decide ((i : Int) < (l.length : Int)) = false := by simp; omega
              have hfin : Lib.Bytes wr V.heap.size 0 ⟨(escF ps l).toArray⟩ := by
                intro q hq
                have hq' : q < (escF ps l).length := by rw [ba_size] at hq; exact hq
                rw [Nat.zero_add, hBW.cell q]
                have e1 : bufL (escF ps (l.take i)) N = Lib.byteCells (escF ps l) := by
                  rw [List.take_of_length_le (by omega), ← HN9.out]
                  exact bufL_full _
                rw [e1]
                simp only [List.getElem?_toArray]
                unfold Lib.byteCells
                rw [List.getElem?_map, List.getElem?_eq_getElem hq']
                rfl
              have hcv := fun c => Lib.run_convert_whole (P := Try.prog) wr 38 5 9 Try.underlying38 Try.underlying5 Try.underlying9 V.heap.size 0 ⟨(escF ps l).toArray⟩ hfin c
              have hNs : (⟨(escF ps l).toArray⟩ : ByteArray).size = N := by rw [← HN9.out]; exact ba_size _
              rw [hNs] at hcv
              have hwf := HI.out.1
              clear hfin hBW hwW HI
              go_wp2_with fail
              go_returns
              exact ⟨rfl, HWR.out.trans (hwf.mono HWR.out.size)⟩
end Go.Proofs.Ytgdbbocfiejlfaa
