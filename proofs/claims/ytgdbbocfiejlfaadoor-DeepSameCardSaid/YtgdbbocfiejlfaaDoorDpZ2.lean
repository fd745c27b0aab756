/- deep.Join of the two literal atoms. -/
import Derived.Test.YtgdbbocfiejlfaaDoorDpZ
import Derived.RangeFuncBox
import Derived.OwnWalk
set_option linter.unusedSimpArgs false
set_option linter.unusedVariables false
set_option linter.constructorNameAsVariable false
namespace Go.Proofs.YtgdbbocfiejlfaaDoor
open Go.RowKit

theorem infoS : (Tryd.prog.info? 9).map (fun i => (i.zero, i.size, i.bytes)) = some (some (.string .empty), 1, 16) := by kernel_rfl
/-- 'append(own, one)' of texts. -/
theorem wpList_appS {ops : Array Oper} {rest : List Oper} {o : Oper} {act : Act} {Q : Exit → Act → World → Prop} {w : World} (hgd : o.guard = none) (s x : Operand)
    (ho : o.op = .call { callee := .builtin .append, args := #[s, x], argTypes := #[46, 46] }) (base : Nat) (v : Value) (k : Nat) (xs : List Value) (hs : act.eval s = v) (hown : w.ownsRow base 9 1 v k xs)
    (q c : Nat) (p : ByteArray) (hx : act.eval x = .slice (some ⟨q, 0, none⟩) 1 c) (hB : Blk w q #[.string p] 9) (hl : k + 1 ≤ 1000000000) (hb : base ≤ w.heap.size)
    (h : ∀ v' w', w'.ownsRow base 9 1 v' (k + 1) (xs ++ [.string p]) → w.grownBy w' v.ownBlock → wpList Tryd.prog ops Q rest (act.put o.dst v') w') : wpList Tryd.prog ops Q (o :: rest) act w := by
  obtain ⟨i0, hi, hz0, hz1, hz2⟩ := info_parts infoS
  refine wpList_append_own w hgd s x 46 ho base 9 i0 (.string .empty) 1 16 Tryd.underlying46 hi hz0 hz1 hz2 rfl (by decide) v k xs hs hown ⟨q, 0, none⟩ 1 c [.string p] hx rfl (fun j u hj => ?_) (fun u hu => ?_) (by unfold maxLen; omega) (by omega) hb (fun v' w' h1 h2 _ => h v' w' h1 h2)
  · rw [Addr.add_lit, Nat.zero_add, hB.cell j]
    simpa using hj
  · simp only [List.mem_cons, List.not_mem_nil, or_false] at hu
    subst hu
    rfl
theorem ownS_below {base n k : Nat} {w w' : World} {v : Value} {xs : List Value} (h : w.ownsRow base 9 1 v k xs) (hb : Below n w w') (hv : ∀ g, v.ownBlock = some g → g < n) : w'.ownsRow base 9 1 v k xs := by
  refine ⟨h.1, ?_⟩
  rcases h.2 with h0 | ⟨g, cap, cur, rfl, h1, h2, h3, h4, h5, h6⟩
  · exact .inl h0
  · exact .inr ⟨g, cap, cur, rfl, h1, (show Blk w' g cur 9 from Blk.below h2 hb (hv g rfl)), h3, h4, h5, h6⟩
theorem ownS_lt {base k : Nat} {w : World} {v : Value} {xs : List Value} (h : w.ownsRow base 9 1 v k xs) : ∀ g, v.ownBlock = some g → g < w.heap.size := by
  intro g hg
  rcases h.2 with ⟨rfl, -⟩ | ⟨g', cap, cur, rfl, h1, h2, -⟩
  · cases hg
  · obtain rfl : g' = g := by simpa [Value.ownBlock] using hg
    exact Blk.lt h2
theorem ownS_grown {base n k : Nat} {w w' : World} {v : Value} {xs : List Value} (h : w.ownsRow base 9 1 v k xs) (hg : w.grownBy w' v.ownBlock) (hn : n ≤ base) (hb : n ≤ w.heap.size) : Below n w w' :=
  (Below.refl n w).grown hg hb fun q hq => by
    rcases h.2 with ⟨rfl, _⟩ | ⟨g, cap, cur, rfl, h1, _⟩
    · simp [Value.ownBlock] at hq
    · simp [Value.ownBlock] at hq; omega
theorem join_lit : (⟨(Lib.join (([⟨#[49]⟩, ⟨#[116, 114, 117, 101]⟩] : List ByteArray).map (·.data.toList)) (⟨#[32]⟩ : ByteArray).data.toList).toArray⟩ : ByteArray) = ⟨#[49, 32, 116, 114, 117, 101]⟩ := by decide +kernel
set_option maxRecDepth 100000 in
set_option maxHeartbeats 4000000 in
theorem join_two (q : Nat) (w : World) (hB : Blk w q #[.int .i64 1, .int .i64 1, .int .i64 0, .string ⟨#[]⟩, .bool false, .int .i64 4, .int .i64 0, .int .i64 0, .string ⟨#[]⟩, .bool true] 38) :
    Calls Tryd.prog 12 #[.string ⟨#[32]⟩, .slice (some ⟨q, 0, none⟩) 2 2] w fun e w' => e = .returned (.string ⟨#[49, 32, 116, 114, 117, 101]⟩) ∧ Below w.heap.size w w' := by
  have C1 := Lib.hid (fun w => string_one w)
  have C2 := Lib.hid (fun w => string_true w)
  go_enter Tryd.func12, Tryd.ntmps12
  go_wp2_with fail
  go_loopg [5, 10] 3 (fun m vv ii wr => ∃ j : Nat, j ≤ 2 ∧ m + j = 3 ∧ ii = .int .i64 (j : Int) ∧ Below w.heap.size w wr ∧ Hid (wr.ownsRow w.heap.size 9 1 vv j (([⟨#[49]⟩, ⟨#[116, 114, 117, 101]⟩].take j).map Value.string)))
  case atStart => exact ⟨0, by omega, by omega, rfl, Below.refl _ _, World.ownsRow_nil _ _ _ _⟩
  case round =>
    obtain ⟨j, hj, hmj, rfl, hwr, HO⟩ := hrel
    have BQ := hB.below hwr hB.lt
    have kQ := BQ.lt
    have hj4 : j = 0 ∨ j = 1 ∨ j = 2 := by omega
    rcases hj4 with rfl | rfl | rfl
    · have u0 := BQ.cell 0
      have u1 := BQ.cell 1
      have u2 := BQ.cell 2
      have u3 := BQ.cell 3
      have u4 := BQ.cell 4
      simp at u0 u1 u2 u3 u4
      go_wp2_with fail
      have hbA : Below wr.heap.size wr (wr.alloc (.cells #[.int .i64 1, .int .i64 1, .int .i64 0, .string ⟨#[]⟩, .bool false] 38)) := (Below.refl _ _).alloc (Nat.le_refl _) _
      have HO2 := Lib.hid (ownS_below HO.out hbA (ownS_lt HO.out))
      have hzA : (wr.alloc (.cells #[.int .i64 1, .int .i64 1, .int .i64 0, .string ⟨#[]⟩, .bool false] 38)).heap.size = wr.heap.size + 1 := by simp
      generalize wr.alloc (.cells #[.int .i64 1, .int .i64 1, .int .i64 0, .string ⟨#[]⟩, .bool false] 38) = WA at *
      with_reducible refine (C1.out _).mono ?_
      rintro e w1 ⟨rfl, hb1⟩
      have hwA : Below w.heap.size w WA := hwr.trans (hbA.mono hwr.size)
      have hw1 : Below w.heap.size w w1 := hwA.trans (hb1.mono hwA.size)
      have HO3 := Lib.hid (ownS_below HO2.out hb1 (ownS_lt HO2.out))
      go_wp2_with (at_builtin; refine wpList_appS rfl _ _ rfl w.heap.size _ _ _ rfl (World.ownsRow.alloc HO3.out _) w1.heap.size _ _ rfl (Blk.new _ _ _) (by omega) (by have := hw1.size; simp; omega) ?_)
      intro v' w2 hO hg
      have hw2 : Below w.heap.size w w2 := (hw1.alloc hw1.size _).trans (ownS_grown (World.ownsRow.alloc HO3.out _) hg (Nat.le_refl _) (by have := hw1.size; simp; omega))
      go_wp2_with fail
      go_roundg (gk - 1)
      case measure => omega
      case rel => exact ⟨1, by omega, by omega, by go_num, hw2, hO⟩
    · have u0 := BQ.cell 5
      have u1 := BQ.cell 6
      have u2 := BQ.cell 7
      have u3 := BQ.cell 8
      have u4 := BQ.cell 9
      simp at u0 u1 u2 u3 u4
      go_wp2_with fail
      have hbA : Below wr.heap.size wr (wr.alloc (.cells #[.int .i64 4, .int .i64 0, .int .i64 0, .string ⟨#[]⟩, .bool true] 38)) := (Below.refl _ _).alloc (Nat.le_refl _) _
      have HO2 := Lib.hid (ownS_below HO.out hbA (ownS_lt HO.out))
      have hzA : (wr.alloc (.cells #[.int .i64 4, .int .i64 0, .int .i64 0, .string ⟨#[]⟩, .bool true] 38)).heap.size = wr.heap.size + 1 := by simp
      generalize wr.alloc (.cells #[.int .i64 4, .int .i64 0, .int .i64 0, .string ⟨#[]⟩, .bool true] 38) = WA at *
      with_reducible refine (C2.out _).mono ?_
      rintro e w1 ⟨rfl, hb1⟩
      have hwA : Below w.heap.size w WA := hwr.trans (hbA.mono hwr.size)
      have hw1 : Below w.heap.size w w1 := hwA.trans (hb1.mono hwA.size)
      have HO3 := Lib.hid (ownS_below HO2.out hb1 (ownS_lt HO2.out))
      go_wp2_with (at_builtin; refine wpList_appS rfl _ _ rfl w.heap.size _ _ _ rfl (World.ownsRow.alloc HO3.out _) w1.heap.size _ _ rfl (Blk.new _ _ _) (by omega) (by have := hw1.size; simp; omega) ?_)
      intro v' w2 hO hg
      have hw2 : Below w.heap.size w w2 := (hw1.alloc hw1.size _).trans (ownS_grown (World.ownsRow.alloc HO3.out _) hg (Nat.le_refl _) (by have := hw1.size; simp; omega))
      go_wp2_with fail
      go_roundg (gk - 1)
      case measure => omega
      case rel => exact ⟨2, by omega, by omega, by go_num, hw2, hO⟩
    · obtain ⟨g, cap, cur, rfl, hg, hBG, hc1, hc2, hc3, hc4⟩ := HO.out.2.resolve_left (by rintro ⟨-, h⟩; cases h)
      have BG : Blk wr g cur 9 := hBG
      have JJ := Lib.hid (Tryd.strings_Join g 0 cap [⟨#[49]⟩, ⟨#[116, 114, 117, 101]⟩] ⟨#[32]⟩ wr (fun j x hx => by
        have hcur : ∀ (i : Nat) (u : Value), [Value.string ⟨#[49]⟩, Value.string ⟨#[116, 114, 117, 101]⟩][i]? = some u → cur[i]? = some u := by
          intro i u hu
          have : (List.take (2 * 1) cur.toList)[i]? = some u := by rw [hc4]; exact hu
          rw [List.getElem?_take] at this
          split at this
          · simpa using this
          · cases this
        rw [Nat.zero_add, BG.cell j]
        refine hcur j _ ?_
        rw [show [Value.string ⟨#[49]⟩, Value.string ⟨#[116, 114, 117, 101]⟩] = ([⟨#[49]⟩, ⟨#[116, 114, 117, 101]⟩] : List ByteArray).map Value.string from rfl, List.getElem?_map, hx]
        rfl) BG.lt (by decide) hc1 (by decide +kernel))
      rw [join_lit] at JJ
      simp only [List.length_cons, List.length_nil, Nat.zero_add, Nat.reduceAdd] at JJ
      clear HO hBG hc1 hc2 hc3 hc4 BG
      go_wp2_with fail
      with_reducible refine JJ.out.mono ?_
      rintro e w1 ⟨rfl, hb1⟩
      go_wp2_with fail
      go_returns
      exact ⟨rfl, hwr.trans (hb1.mono hwr.size)⟩
end Go.Proofs.YtgdbbocfiejlfaaDoor
