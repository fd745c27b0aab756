/- The table is built. -/
import Derived.Test.YtgdbbocfiejlfaaSeH
import Derived.Lib.ConvBytes
set_option linter.unusedSimpArgs false
set_option linter.unusedVariables false
set_option linter.constructorNameAsVariable false
namespace Go.Proofs.Ytgdbbocfiejlfaa
open Go.RowKit

/-- The table on the way: the first pairs are in. -/
structure BT (done : Tab) (base b : Nat) (w : World) : Prop where
  le : base ≤ b
  ex : ∃ cs : Array Value, Blk w b cs 96 ∧ cs.size = 257 ∧
    (∀ c : UInt8, lookT done c = none → cs[c.toNat]? = some (.slice none 0 0)) ∧
    (∀ (c : UInt8) r, lookT done c = some r → ∃ (g cap : Nat) (cs' : Array Value) (fr : Nat × Nat), cs[c.toNat]? = some (.slice (some ⟨g, 0, none⟩) r.length cap) ∧ w.heap[g]? = some (.cells cs' 5 fr) ∧ ∀ (j : Nat) (v : Value), (Lib.byteCells r)[j]? = some v → cs'[j]? = some v) ∧
    ∃ v, cs[256]? = some v ∧ w.ownsRow base 9 1 v done.length (done.map fun p => Value.string ⟨#[p.1]⟩)
theorem heap_lt {w : World} {g : Nat} {x : Obj} (h : w.heap[g]? = some x) : g < w.heap.size := by
  rcases Nat.lt_or_ge g w.heap.size with h' | h'
  · exact h'
  · simp [Array.getElem?_eq_none h'] at h
theorem heap_set {w : World} {g q i : Nat} {x : Value} (h : g ≠ q) : (w.setCell ⟨q, i, none⟩ x).heap[g]? = w.heap[g]? := Below.heap_setCell _ _ _ _ (fun e => h e)
theorem below_bytes (w : World) (s : ByteArray) : Below w.heap.size w (Lib.bytesWorld w 5 s) := by
  refine ⟨?_, ?_, ?_, ?_, fun i hi => Lib.bytesWorld_at_old w _ s i hi⟩
  · simp [Lib.bytesWorld, World.freeze, World.alloc, World.drew, -World.alloc_eq, -World.drew_eq]
  · simp [Lib.bytesWorld, World.freeze, World.alloc, World.drew, -World.alloc_eq, -World.drew_eq]
  · simp [Lib.bytesWorld, World.freeze, World.alloc, World.drew, -World.alloc_eq, -World.drew_eq]
  · rw [Lib.bytesWorld_size]; omega
theorem zero96 : Try.zeroCells96 = Array.replicate 257 (.slice none 0 0) := by kernel_rfl
theorem take_lt {α : Type} {xs : List α} {j : Nat} {x : α} (h : xs[j]? = some x) : j < xs.length := by
  rcases Nat.lt_or_ge j xs.length with h' | h'
  · exact h'
  · simp [List.getElem?_eq_none h'] at h
/-- The empty table. -/
theorem BT.start {w : World} {base : Nat} {v : Value} (ho : w.ownsRow base 9 1 v 0 []) (hb : base ≤ w.heap.size) :
    BT [] base w.heap.size ((w.alloc (.cells Try.zeroCells96 96)).setCells w.heap.size 0 (Try.zeroCells96.toList.set 256 v)) := by
  have hB : Blk (w.alloc (.cells Try.zeroCells96 96)) w.heap.size Try.zeroCells96.toList.toArray 96 := by
    rw [Array.toArray_toList]
    exact Blk.new _ _ _
  have h2 := Blk.sets (w := w) (Try.zeroCells96.toList.set 256 v) 0 _ _ hB
  have e := setsL_app [] (Try.zeroCells96.toList.set 256 v) Try.zeroCells96.toList (by simp)
  simp only [List.nil_append, List.length_nil] at e
  rw [e, List.drop_eq_nil_of_le (by simp), List.append_nil] at h2
  refine ⟨hb, _, h2, ?_, ?_, ?_, v, ?_, ?_⟩
  · rw [List.size_toArray, List.length_set, Array.length_toList, zero96, Array.size_replicate]
  · intro c _
    have := c.toNat_lt
    rw [zero96]
    simp only [List.getElem?_toArray]
    rw [List.getElem?_set_ne (by omega), Array.getElem?_toList, Array.getElem?_replicate, if_pos (by omega)]
  · intro c r h; cases h
  · rw [zero96]
    simp only [List.getElem?_toArray]
    rw [List.getElem?_set_self (by rw [Array.length_toList, Array.size_replicate]; decide)]
  · have ho2 := World.ownsRow.alloc ho (.cells Try.zeroCells96 96)
    exact own_below ho2 (below_sets (Nat.le_refl w.heap.size) _ 0 _ _ (Below.refl _ _)) fun g hg => (own_lt ho g hg).2
/-- One pair more. -/
theorem BT.step {done : Tab} {base b : Nat} {w w6 : World} {k : UInt8} {r : List UInt8} {v v' : Value} {cap6 : Nat} {A : World}
    (H : BT done base b w) (hk : k ∉ done.map Prod.fst) (hv : w.cell? ⟨b, 256, none⟩ = some v) (hA : Below w.heap.size w A) (hg : A.grownBy w6 v.ownBlock)
    (ho : w6.ownsRow base 9 1 v' (done.length + 1) ((done.map fun p => Value.string ⟨#[p.1]⟩) ++ [.string ⟨#[k]⟩])) :
    BT (done ++ [(k, r)]) base b (((Lib.bytesWorld (w6.setCell ⟨b, 256, none⟩ v') 5 ⟨r.toArray⟩)).setCell ⟨b, k.toNat, none⟩ (.slice (some ⟨w6.heap.size, 0, none⟩) r.length cap6)) := by
  obtain ⟨cs, hB, hsz, hno, hyes, v0, hv0, hown⟩ := H.ex
  have hv1 : v0 = v := by
    have := hB.cell 256
    rw [hv0, hv] at this
    exact (Option.some.inj this).symm
  subst hv1
  have kt := k.toNat_lt
  have hnb : v0.ownBlock ≠ some b := own_type hown hB (by decide)
  have hBA : Blk A b cs 96 := hB.below hA hB.lt
  have hB6 : Blk w6 b cs 96 := hBA.grown hg hnb
  have hB7 := hB6.set 256 v'
  have hlt7 : b < (w6.setCell ⟨b, 256, none⟩ v').heap.size := hB7.lt
  have hb8 := below_bytes (w6.setCell ⟨b, 256, none⟩ v') ⟨r.toArray⟩
  have hB8 := (hB7.below hb8 hlt7).set k.toNat (.slice (some ⟨w6.heap.size, 0, none⟩) r.length cap6)
  have hs6 : (w6.setCell ⟨b, 256, none⟩ v').heap.size = w6.heap.size := by simp
  have hnb6 : v'.ownBlock ≠ some b := own_type ho hB6 (by decide)
  refine ⟨H.le, _, hB8, by simp [hsz], fun c hc => ?_, fun c x hx => ?_, v', ?_, ?_⟩
  · rw [lookT_snoc done k r c hk] at hc
    by_cases e : c = k
    · rw [if_pos e] at hc; cases hc
    · rw [if_neg e] at hc
      have ne : k.toNat ≠ c.toNat := fun h => e (UInt8.toNat_inj.1 h.symm)
      have c256 := c.toNat_lt
      rw [Array.getElem?_setIfInBounds_ne ne, Array.getElem?_setIfInBounds_ne (by omega)]
      exact hno c hc
  · rw [lookT_snoc done k r c hk] at hx
    by_cases e : c = k
    · subst e
      rw [if_pos rfl] at hx
      cases hx
      have hnew := Lib.bytesWorld_at_new (w6.setCell ⟨b, 256, none⟩ v') 5 ⟨r.toArray⟩
      rw [hs6] at hnew
      refine ⟨w6.heap.size, cap6, _, _, ?_, (heap_set (by have := hB6.lt; omega)).trans hnew, fun j u hu => ?_⟩
      · rw [Array.getElem?_setIfInBounds_self_of_lt (by simp; omega)]
      · have hj : j < r.length := by
          have := take_lt hu
          rwa [byteCells_len] at this
        have hu2 : u = .int .u8 (r[j].toNat : Int) := by
          unfold Lib.byteCells at hu
          rw [List.getElem?_map, List.getElem?_eq_getElem hj] at hu
          exact (Option.some.inj hu).symm
        rw [hu2]
        unfold Lib.bytesCells
        rw [Array.getElem?_append_left (by simp; omega)]
        simp [hj]
    · rw [if_neg e] at hx
      have ne : k.toNat ≠ c.toNat := fun h => e (UInt8.toNat_inj.1 h.symm)
      have c256 := c.toNat_lt
      obtain ⟨g, cap, cs', fr, h1, h2, h3⟩ := hyes c x hx
      have hgl := heap_lt h2
      have hgb : g ≠ b := by
        intro e9
        subst e9
        unfold Blk at hB
        rw [hB] at h2
        simp only [Option.some.injEq, Obj.cells.injEq] at h2
        exact absurd h2.2.1 (by decide)
      have hgo : v0.ownBlock ≠ some g := by
        rcases hown.2 with ⟨rfl, -⟩ | ⟨g', cap', cur, rfl, -, hh, -⟩
        · intro e9; cases e9
        · intro e9
          obtain rfl : g' = g := by simpa [Value.ownBlock] using e9
          rw [hh] at h2
          simp only [Option.some.injEq, Obj.cells.injEq] at h2
          exact absurd h2.2.1 (by decide)
      refine ⟨g, cap, cs', fr, ?_, ?_, h3⟩
      · rw [Array.getElem?_setIfInBounds_ne ne, Array.getElem?_setIfInBounds_ne (by omega)]
        exact h1
      · rw [heap_set hgb, hb8.block g (by rw [hs6]; have := hA.size; have := hg.size; omega), heap_set hgb, hg.block g (by have := hA.size; omega) (fun e9 => hgo e9.symm), hA.block g hgl]
        exact h2
  · rw [Array.getElem?_setIfInBounds_ne (by omega), Array.getElem?_setIfInBounds_self_of_lt (by omega)]
  · have ho7 := own_set ho hnb6 256 v'
    have ho8 := own_below ho7 hb8 fun g hg => (own_lt ho7 g hg).2
    have ho9 := own_set ho8 hnb6 k.toNat (.slice (some ⟨w6.heap.size, 0, none⟩) r.length cap6)
    rw [List.length_append, List.map_append]
    exact ho9
theorem BT.done {qs : Tab} {base b : Nat} {w : World} (H : BT qs base b w) (h1 : 1 ≤ qs.length) : BSR qs (keysT qs) b w := by
  obtain ⟨cs, hB, hsz, hno, hyes, v, hv, hown⟩ := H.ex
  refine ⟨hB.lt, fun c hc => by rw [hB.cell]; exact hno c hc, fun c r hr => ?_, ?_⟩
  · obtain ⟨g, cap, cs', fr, h1, h2, h3⟩ := hyes c r hr
    exact ⟨g, cap, by rw [hB.cell]; exact h1, heap_lt h2, fun j u hu => by rw [Lib.cell_of_heap h2]; exact h3 j u hu⟩
  · rcases hown.2 with ⟨-, h⟩ | ⟨g, cap, cur, rfl, h3, h4, h5, h6, h7, h8⟩
    · omega
    · have hBg : Blk w g cur 9 := h4
      have hl : (keysT qs).length = qs.length := by unfold keysT; rw [List.length_map]
      refine ⟨g, cap, by rw [hB.cell, hv, hl], hBg.lt, fun j k hk => ?_⟩
      rw [hBg.cell j]
      have hj : (qs.map fun p => Value.string ⟨#[p.1]⟩)[j]? = some (.string ⟨#[k]⟩) := by
        unfold keysT at hk
        rw [List.getElem?_map] at hk ⊢
        cases e : qs[j]? with
        | none => rw [e] at hk; cases hk
        | some p => rw [e] at hk; cases hk; rfl
      rw [← h8, List.getElem?_take] at hj
      split at hj
      · simpa using hj
      · cases hj
set_option maxRecDepth 100000 in
set_option maxHeartbeats 1600000 in
theorem build_any (qs : Tab) (rb o cap : Nat) (s1 : Int) (w : World) (hnd : (keysT qs).Nodup) (h2 : 2 ≤ qs.length) (hq : qs.length ≤ 1000) (hr : ∀ p ∈ qs, p.2.length ≤ 1000) (hne : ∃ p ∈ qs, p.2.length ≠ 1)
    (hB : Blk w rb #[.int .u32 0, .int .i32 s1, .int .u32 0, .nilIface, .slice (some ⟨o, 0, none⟩) (2 * qs.length) cap] 74) (hR : RowS w o (flatT qs.reverse)) :
    Calls Try.prog 27 #[.pointer (some ⟨rb, 0, none⟩)] w fun e w' => (∃ b, e = .returned (.iface 97 (.pointer (some ⟨b, 0, none⟩))) ∧ BSR qs (keysT qs) b w') ∧ Below w.heap.size w w' := by
  obtain ⟨m, hm⟩ : ∃ m, qs.length = m := ⟨_, rfl⟩
  rw [hm] at h2 hq hB
  obtain ⟨L, hL⟩ : ∃ L, 2 * m = L := ⟨_, rfl⟩
  rw [hL] at hB
  have b4 := hB.cell 4
  have kb := hB.lt
  have ho := hR.1
  simp at b4
  have i2 : ((L : Int) == 2) = false := by simp; omega
  have HR := Lib.hid hR
  clear hR
  go_enter Try.func27, Try.ntmps27
  go_wp2_with fail
  go_loopg [4, 5] (m + 1) (fun gm aa ii wr => ∃ t u : Nat, t ≤ m ∧ gm + t = m + 1 ∧ ii = .int .i64 (u : Int) ∧ 2 * t = u ∧ aa = .bool ((qs.reverse.take t).all fun p => p.2.length == 1) ∧ wr = w)
  case atStart => exact ⟨0, 0, by omega, by omega, rfl, rfl, rfl, rfl⟩
  case round =>
    obtain ⟨t, u, ht, hmt, rfl, htu, rfl, rfl⟩ := hrel
    have hu0 : (0 : Int) ≤ (u : Int) := Int.natCast_nonneg _
    by_cases hlt : t < m
    · have i0 : decide ((u : Int) < (L : Int)) = true := by simp; omega
      have i6 : (u : Int) < (L : Int) := by omega
      have i7 : (u : Int) + 1 < (L : Int) := by omega
      have i8 : (0 : Int) ≤ (u : Int) + 1 := by omega
      obtain ⟨⟨k, r⟩, hp⟩ : ∃ p, qs.reverse[t]? = some p := ⟨_, List.getElem?_eq_getElem (by rw [List.length_reverse]; omega)⟩
      obtain ⟨x0, x1⟩ := flatT_at _ t _ hp
      have u0 := HR.out.2 _ _ x0
      have u1 := HR.out.2 _ _ x1
      rw [htu] at u0 u1
      simp only at u0 u1
      have hall : ((qs.reverse.take (t + 1)).all fun p => p.2.length == 1) = (((qs.reverse.take t).all fun p => p.2.length == 1) && (r.length == 1)) := by
        rw [take_one _ t _ hp]
        simp
      have z1 : (⟨#[k]⟩ : ByteArray).size = 1 := rfl
      have z2 : (⟨r.toArray⟩ : ByteArray).size = r.length := ba_size r
      have w1 : IntKind.i64.wrap ((u : Int) + 1) = (u : Int) + 1 := IntWalk.i64_in _ (by omega)
      have w2 : IntKind.i64.wrap ((u : Int) + 2) = (u : Int) + 2 := IntWalk.i64_in _ (by omega)
      have HA := Lib.hid hall
      clear hall x0 x1 hp
      cases h1 : (r.length == 1)
      · have e1 : ((r.length : Int) != 1) = true := by simp at h1 ⊢; omega
        have HA2 := Lib.hid (show ((qs.reverse.take (t + 1)).all fun p => p.2.length == 1) = false by rw [HA.out, h1, Bool.and_false])
        clear HA h1
        go_wp2_with fail
        go_roundg (gk - 1)
        case measure => omega
        case rel => exact ⟨t + 1, u + 2, by omega, by omega, by go_num, by omega, by rw [HA2.out], rfl⟩
      · have e1 : ((r.length : Int) != 1) = false := by simp at h1 ⊢; omega
        have HA2 := Lib.hid (show ((qs.reverse.take (t + 1)).all fun p => p.2.length == 1) = ((qs.reverse.take t).all fun p => p.2.length == 1) by rw [HA.out, h1, Bool.and_true])
        clear HA h1
        go_wp2_with fail
        go_roundg (gk - 1)
        case measure => omega
        case rel => exact ⟨t + 1, u + 2, by omega, by omega, by go_num, by omega, by rw [HA2.out], rfl⟩
    · have i0 : decide ((u : Int) < (L : Int)) = false := by simp; omega
      have hfa : ((qs.reverse.take t).all fun p => p.2.length == 1) = false := by
        rw [List.take_of_length_le (by rw [List.length_reverse]; omega)]
        obtain ⟨p, hp, hp1⟩ := hne
        rw [List.all_eq_false]
        exact ⟨p, by simpa using hp, by simpa using hp1⟩
      rw [hfa]
      have q1 : Int.tdiv (L : Int) 2 = (m : Int) := by rw [Int.tdiv_eq_ediv_of_nonneg (by omega)]; omega
      obtain ⟨i0', hi, hz0, hz1, hz2⟩ := info_parts infoS
      go_wp2_with (refine wpList_make_own _ rfl _ _ _ rfl wr.heap.size 9 i0' (.string .empty) 1 Try.underlying51 hi hz0 hz1 .i64 .i64 _ m rfl rfl rfl (by rw [hz2]; omega) (by unfold maxLen; omega) (Nat.le_refl _) ?_)
      intro w3 hown hgr
      have hb3 : Below wr.heap.size wr w3 := (Below.refl _ _).grown hgr (Nat.le_refl _) (fun k hk => by cases hk)
      have HI := Lib.hid (And.intro hown hb3)
      have kb3 := Nat.lt_of_lt_of_le kb hb3.size
      have b43 := (hb3.cell (p := ⟨rb, 4, none⟩) kb).trans b4
      have hm9 : wr.heap.size < w3.heap.size := by
        obtain ⟨-, h | ⟨g, c9, cur, e, h1, h2, -⟩⟩ := hown
        · cases h.1
        · cases e; exact Blk.lt h2
      clear hown hgr hb3
      have HI0 := Lib.hid (And.intro hi (And.intro hz0 (And.intro hz1 hz2)))
      obtain ⟨V, hV⟩ : ∃ V, V = wr := ⟨_, rfl⟩
      subst hV
      have hB0 := BT.start (w := w3) (base := V.heap.size) HI.out.1 HI.out.2.size
      have hz96 : Try.zeroCells96.size = 257 := by rw [zero96, Array.size_replicate]
      have hst : (storeCells ⟨w3.heap.size, 0, none⟩ (Try.zeroCells96.toList.set 256 (.slice (some ⟨V.heap.size, 0, none⟩) 0 m))).run Try.prog (w3.alloc (.cells Try.zeroCells96 96)) = .ok () ((w3.alloc (.cells Try.zeroCells96 96)).setCells w3.heap.size 0 (Try.zeroCells96.toList.set 256 (.slice (some ⟨V.heap.size, 0, none⟩) 0 m))) := by
        have hBn := Blk.new w3 Try.zeroCells96 96
        have h9 := run_storeCells_cells (P := Try.prog) w3.heap.size 0 (Try.zeroCells96.toList.set 256 (.slice (some ⟨V.heap.size, 0, none⟩) 0 m)) 0 (w3.alloc (.cells Try.zeroCells96 96)) (fun j hj => by
            rw [List.length_set, Array.length_toList] at hj
            rw [show 0 + 0 + j = j by omega, hBn.cell j, Array.getElem?_eq_getElem hj]
            rfl) (fun j _ => hBn.free _) (fun u hu => by
            rcases List.mem_or_eq_of_mem_set hu with h | rfl
            · rw [zero96] at h
              rw [Array.toList_replicate] at h
              rw [List.eq_of_mem_replicate h]
              rfl
            · rfl)
        exact h9
      have hbW : Below V.heap.size V ((w3.alloc (.cells Try.zeroCells96 96)).setCells w3.heap.size 0 (Try.zeroCells96.toList.set 256 (.slice (some ⟨V.heap.size, 0, none⟩) 0 m))) := below_sets HI.out.2.size _ 0 _ _ (HI.out.2.alloc HI.out.2.size _)
      have hsW : w3.heap.size < ((w3.alloc (.cells Try.zeroCells96 96)).setCells w3.heap.size 0 (Try.zeroCells96.toList.set 256 (.slice (some ⟨V.heap.size, 0, none⟩) 0 m))).heap.size := by
        obtain ⟨cs, hB, -⟩ := hB0.ex
        exact hB.lt
      have HJ := Lib.hid (And.intro hB0 hbW)
      clear hB0 hbW HI hz96
      go_wp2_with fail
      generalize ((w3.alloc (.cells Try.zeroCells96 96)).setCells w3.heap.size 0 (Try.zeroCells96.toList.set 256 (.slice (some ⟨V.heap.size, 0, none⟩) 0 m))) = W4 at *
      obtain ⟨b, hb⟩ : ∃ b, w3.heap.size = b := ⟨_, rfl⟩
      rw [hb] at HJ hsW kb3 hm9 ⊢
      clear hst b43 hb kb3
      go_loopg [12] (m + 1) (fun gm zz wr => ∃ (j : Nat) (z : Int), j ≤ m ∧ gm + j = m + 1 ∧ zz = .int .i64 z ∧ z + 2 * j + 2 = L ∧ Hid (BT (qs.take j) V.heap.size b wr ∧ Below V.heap.size V wr))
      case atStart => exact ⟨0, _, by omega, by omega, rfl, by omega, HJ.out⟩
      case round =>
        obtain ⟨j, z, hj, hmj, rfl, hz, HD⟩ := hrel
        have hwr := HD.out.2
        have hLm : (2 * (m : Int)) = (L : Int) := by omega
        by_cases hz0' : 0 ≤ z
        · obtain ⟨u, rfl⟩ : ∃ u : Nat, z = (u : Int) := ⟨z.toNat, by omega⟩
          have hjm : j < m := by omega
          have i0 : decide ((0 : Int) ≤ (u : Int)) = true := by simp
          obtain ⟨⟨k, r⟩, hp⟩ : ∃ p, qs[j]? = some p := ⟨_, List.getElem?_eq_getElem (by omega)⟩
          have hp2 : qs.reverse[m - 1 - j]? = some (k, r) := by
            rw [List.getElem?_reverse (by omega), hm, show m - 1 - (m - 1 - j) = j by omega]
            exact hp
          obtain ⟨x0, x1⟩ := flatT_at _ _ _ hp2
          have hRw := HR.out.on hwr
          have lo := hRw.1
          have u0 := hRw.2 _ _ x0
          have u1 := hRw.2 _ _ x1
          rw [show 2 * (m - 1 - j) = u by omega] at u0 u1
          simp only at u0 u1
          have hk0 : (⟨#[k]⟩ : ByteArray)[0]'(Nat.zero_lt_succ 0) = k := rfl
          have z1 : (⟨#[k]⟩ : ByteArray).size = 1 := rfl
          have z2 : (⟨r.toArray⟩ : ByteArray).size = r.length := ba_size r
          have kt := k.toNat_lt
          have kt2 : (k.toNat : Int) < 256 := by omega
          have i6 : (u : Int) < (L : Int) := by omega
          have i7 : (u : Int) + 1 < (L : Int) := by omega
          have i8 : (0 : Int) ≤ (u : Int) + 1 := by omega
          have w1 : IntKind.i64.wrap ((u : Int) + 1) = (u : Int) + 1 := IntWalk.i64_in _ (by omega)
          have w2 : IntKind.i64.wrap ((u : Int) - 2) = (u : Int) - 2 := IntWalk.i64_in _ (by omega)
          have hkn := key_new qs hnd j k r hp
          obtain ⟨cs, hB, hsz, hno, -, v, hv, hown⟩ := HD.out.1.ex
          have q0 : wr.cell? ⟨b, k.toNat, none⟩ = some (.slice none 0 0) := by rw [hB.cell]; exact hno k (lookT_none _ _ hkn)
          have q1 : wr.cell? ⟨b, 256, none⟩ = some v := by rw [hB.cell]; exact hv
          have kB := hB.lt
          have e8 := eql_nil8 none 0 0
          simp only [Option.isNone_none] at e8
          have BX := Blk.new wr #[.int .u8 (k.toNat : Int)] 5
          have hcs := Lib.run_convert_whole (P := Try.prog) (wr.alloc (.cells #[.int .u8 (k.toNat : Int)] 5)) 38 5 9 Try.underlying38 Try.underlying5 Try.underlying9 wr.heap.size 0 ⟨#[k]⟩ (fun q hq => by
            obtain rfl : q = 0 := by have hq' : q < 1 := hq; omega
            rw [Nat.zero_add, BX.cell 0]
            rfl) 1
          rw [z1] at hcs
          have hsz1 : (wr.alloc (.cells #[.int .u8 (k.toNat : Int)] 5)).heap.size = wr.heap.size + 1 := by simp
          have BY := Blk.new (wr.alloc (.cells #[.int .u8 (k.toNat : Int)] 5)) #[.string ⟨#[k]⟩] 9
          rw [hsz1] at BY
          have hA : Below wr.heap.size wr ((wr.alloc (.cells #[.int .u8 (k.toNat : Int)] 5)).alloc (.cells #[.string ⟨#[k]⟩] 9)) := ((Below.refl _ _).alloc (Nat.le_refl _) _).alloc (by simp) _
          have hlen : (qs.take j).length = j := by rw [List.length_take]; omega
          rw [hlen] at hown
          have HO := Lib.hid (World.ownsRow.alloc (World.ownsRow.alloc hown (.cells #[.int .u8 (k.toNat : Int)] 5)) (.cells #[.string ⟨#[k]⟩] 9))
          have hnb := own_type hown hB (by decide)
          have hBA : Blk ((wr.alloc (.cells #[.int .u8 (k.toNat : Int)] 5)).alloc (.cells #[.string ⟨#[k]⟩] 9)) b cs 96 := (hB.alloc _).alloc _
          have hnews : ∀ jj u, [Value.string ⟨#[k]⟩][jj]? = some u → ((wr.alloc (.cells #[.int .u8 (k.toNat : Int)] 5)).alloc (.cells #[.string ⟨#[k]⟩] 9)).cell? ((⟨wr.heap.size + 1, 0, none⟩ : Addr).add jj) = some u := fun jj u hu => by
            rw [Addr.add_lit, Nat.zero_add, BY.cell jj]
            simpa using hu
          have hone : ∀ u ∈ [Value.string ⟨#[k]⟩], u.oneCell' = true := fun u hu => by
            simp at hu
            subst hu
            rfl
          have hk8 : cs[k.toNat]? = some (.slice none 0 0) := hno k (lookT_none _ _ hkn)
          have HBJ := Lib.hid HD.out.1
          have HWR := Lib.hid hwr
          have HP := Lib.hid hp
          have HBA := Lib.hid hBA
          have hVw := hwr.size
          clear hB hno hown hBA BX BY HD x0 x1 hp hp2 hRw
          go_wp2_with (at_builtin; refine wpList_append_own _ rfl _ _ 51 rfl V.heap.size 9 i0' (.string .empty) 1 16 Try.underlying51 hi hz0 hz1 hz2 rfl (by decide) v j ((qs.take j).map fun p => Value.string ⟨#[p.1]⟩) rfl HO.out ⟨wr.heap.size + 1, 0, none⟩ 1 1 [.string ⟨#[k]⟩] rfl rfl hnews hone (by unfold maxLen; omega) (by omega) (by simp; omega) ?_)
          intro v' w6 hO6 hg6 _
          obtain ⟨g6, cap6, rfl⟩ : ∃ g cap, v' = .slice (some ⟨g, 0, none⟩) (j + 1) cap := by
            rcases hO6.2 with ⟨-, h⟩ | ⟨g, cap, cur, hv', -⟩
            · omega
            · exact ⟨g, cap, hv'⟩
          have hB6 := HBA.out.grown hg6 hnb
          have c6 := hB6.cell 256
          have f6 := hB6.free 256
          have hB7 : Blk (w6.setCell ⟨b, 256, none⟩ (.slice (some ⟨g6, 0, none⟩) (j + 1) cap6)) b _ 96 := hB6.set 256 _
          have hb8 := below_bytes (w6.setCell ⟨b, 256, none⟩ (.slice (some ⟨g6, 0, none⟩) (j + 1) cap6)) ⟨r.toArray⟩
          have hB8 := hB7.below hb8 hB7.lt
          have q8 : (Lib.bytesWorld (w6.setCell ⟨b, 256, none⟩ (.slice (some ⟨g6, 0, none⟩) (j + 1) cap6)) 5 ⟨r.toArray⟩).cell? ⟨b, k.toNat, none⟩ = some (.slice none 0 0) := by
            rw [hB8.cell, Array.getElem?_setIfInBounds_ne (by omega)]
            exact hk8
          have f8 := hB8.free k.toNat
          have hcv := Lib.run_convert_string_bytes (P := Try.prog) (w6.setCell ⟨b, 256, none⟩ (.slice (some ⟨g6, 0, none⟩) (j + 1) cap6)) 9 38 5 ⟨r.toArray⟩ Try.underlying9 Try.underlying38 Try.underlying5
          rw [z2] at hcv
          have hs7 : (w6.setCell ⟨b, 256, none⟩ (.slice (some ⟨g6, 0, none⟩) (j + 1) cap6)).heap.size = w6.heap.size := by simp
          rw [hs7] at hcv
          have hst2 := fun capX => BT.step (r := r) (cap6 := capX) HBJ.out hkn q1 hA hg6 (by rw [hlen, List.map_take]; exact hO6)
          have htk := take_one qs j (k, r) HP.out
          rw [← htk] at hst2
          have HST := Lib.hid hst2
          have hw6 : Below V.heap.size V w6 := HWR.out.trans ((hA.mono hVw).trans (own_grown HO.out hg6 (Nat.le_refl _) (by simp; omega)))
          have hVb : V.heap.size ≤ b := HBJ.out.le
          have HW8 := Lib.hid (fun x => (((hw6.setCell (p := ⟨b, 256, none⟩) hVb (.slice (some ⟨g6, 0, none⟩) (j + 1) cap6)).trans (hb8.mono (by rw [hs7]; exact hw6.size))).setCell (p := ⟨b, k.toNat, none⟩) hVb x))
          have kb6 := hB6.lt
          have kb8 := hB8.lt
          clear hst2 htk hb8 hB6 hB7 hB8 hO6 hg6 HO HBA HBJ HWR hA hw6 hnews hone hlen hcs
          trace_state
          go_wp2_with fail
          go_roundg (gk - 1)
          case measure => omega
          case rel => exact ⟨j + 1, _, by omega, by omega, rfl, by omega, Lib.hid (And.intro (HST.out _) (HW8.out _))⟩
        · have i0 : decide ((0 : Int) ≤ z) = false := by simpa using hz0'
          have hd := HD.out.1
          rw [List.take_of_length_le (by omega)] at hd
          clear HD HR
          go_wp2_with fail
          go_returns
          exact ⟨⟨b, rfl, hd.done (by omega)⟩, hwr⟩
end Go.Proofs.Ytgdbbocfiejlfaa
