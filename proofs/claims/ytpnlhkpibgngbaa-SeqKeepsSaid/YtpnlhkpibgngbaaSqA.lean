/- Rows of ints that the call itself has made: the library's Clone, Reverse, Delete and Insert in their terms. -/
import Derived.Test.YtpnlhkpibgngbaaShf
import Derived.Test.YtpnlhkpibgngbaaBox
import Derived.Sort.OwnSortedInts
import Derived.Lib.LazyBuf
set_option linter.unusedSimpArgs false
namespace Go.Proofs.Ytpnlhkpibgngbaa
open Go.RowKit Go.Sort

theorem irow_owns {w : World} {base : Nat} {t : TypeId} {v : Value} {xs : List Int} (h : w.ownsRow base t 1 v xs.length (xs.map (Value.int .i64))) (hl : xs.length ≤ 1152921504606846976) : ∃ a cap, v = .slice a xs.length cap ∧ IRow w a xs.length xs ∧ xs.length ≤ cap := by
  obtain ⟨_, h⟩ := h
  rcases h with ⟨rfl, h0⟩ | ⟨g, cap, cur, rfl, _, hg, hc, _, hs, ht⟩
  · have : xs = [] := List.length_eq_zero_iff.1 h0
    subst this
    exact ⟨none, 0, rfl, IRow.nil _ _, Nat.le_refl _⟩
  · refine ⟨_, cap, rfl, ⟨rfl, hl, fun hn => ⟨g, 0, rfl, Blk.lt (show Blk w g cur t from hg), fun j x hx => ?_⟩⟩, hc⟩
    have hb : Blk w g cur t := hg
    rw [hb.cell]
    have hj : j < xs.length := by
      rcases Nat.lt_or_ge j xs.length with h' | h'
      · exact h'
      · simp [List.getElem?_eq_none h'] at hx
    have h1 : (cur.toList.take (xs.length * 1))[j]? = some (Value.int .i64 x) := by rw [ht]; simp [hx]
    rw [List.getElem?_take_of_lt (by omega)] at h1
    simpa using h1
/-- A row of the call's own, from block base on. -/
def ORow (w : World) (base : Nat) (v : Value) (xs : List Int) : Prop := w.ownsRow base 3 1 v xs.length (xs.map (Value.int .i64))
/-- A call that answers a row of its own and leaves what was there. -/
def Own (xs : List Int) (w : World) (e : Ending) (w' : World) : Prop := ∃ v, e = .returned v ∧ ORow w' w.heap.size v xs ∧ Below w.heap.size w w'
/-- .. where the marks are apart. -/
def OwnB (base : Nat) (xs : List Int) (w : World) (e : Ending) (w' : World) : Prop := ∃ v, e = .returned v ∧ ORow w' base v xs ∧ Below base w w'

theorem ORow.nil (w : World) (base : Nat) : ORow w base (.slice none 0 0) [] := ⟨rfl, .inl ⟨rfl, rfl⟩⟩
theorem ORow.cases {w : World} {base : Nat} {v : Value} {xs : List Int} (h : ORow w base v xs) : (v = .slice none 0 0 ∧ xs = []) ∨
    ∃ g cap cur, v = .slice (some ⟨g, 0, none⟩) xs.length cap ∧ base ≤ g ∧ w.heap[g]? = some (.cells cur 3 (0, 0)) ∧ xs.length ≤ cap ∧ cap ≤ maxLen ∧ cur.size = cap ∧ cur.toList.take xs.length = xs.map (Value.int .i64) := by
  obtain ⟨_, h⟩ := h
  rcases h with ⟨rfl, h0⟩ | ⟨g, cap, cur, rfl, h1, h2, h3, h4, h5, h6⟩
  · exact .inl ⟨rfl, List.length_eq_zero_iff.1 h0⟩
  · exact .inr ⟨g, cap, cur, rfl, h1, h2, h3, h4, by simpa using h5, by simpa using h6⟩
theorem ORow.mk' {w : World} {base g cap : Nat} {cur : Array Value} {xs : List Int} {n : Nat} (hn : xs.length = n) (h1 : base ≤ g) (h2 : w.heap[g]? = some (.cells cur 3 (0, 0))) (h3 : xs.length ≤ cap) (h4 : cap ≤ maxLen) (h5 : cur.size = cap) (h6 : cur.toList.take xs.length = xs.map (Value.int .i64)) :
    ORow w base (.slice (some ⟨g, 0, none⟩) n cap) xs := by
  subst hn
  exact ⟨by simp, .inr ⟨g, cap, cur, rfl, h1, h2, h3, h4, by simpa using h5, by simpa using h6⟩⟩
theorem ORow.below {w w' : World} {base m : Nat} {v : Value} {xs : List Int} (h : ORow w base v xs) (hb : Below m w w') (hm : w.heap.size ≤ m) : ORow w' base v xs := by
  rcases h.cases with ⟨rfl, rfl⟩ | ⟨g, cap, cur, rfl, h1, h2, h3, h4, h5, h6⟩
  · exact ORow.nil _ _
  · have hl : g < w.heap.size := Blk.lt (show Blk w g cur 3 from h2)
    exact ORow.mk' rfl h1 (by rw [hb.block g (by omega), h2]) h3 h4 h5 h6
theorem ORow.mono {w : World} {base base' : Nat} {v : Value} {xs : List Int} (h : ORow w base v xs) (hb : base' ≤ base) : ORow w base' v xs := by
  rcases h.cases with ⟨rfl, rfl⟩ | ⟨g, cap, cur, rfl, h1, h2, h3, h4, h5, h6⟩
  · exact ORow.nil _ _
  · exact ORow.mk' rfl (by omega) h2 h3 h4 h5 h6
theorem ORow.irow {w : World} {base : Nat} {v : Value} {xs : List Int} (h : ORow w base v xs) (hl : xs.length ≤ 1152921504606846976) : ∃ a cap, v = .slice a xs.length cap ∧ IRow w a xs.length xs ∧ xs.length ≤ cap := irow_owns h hl
theorem grow_nil (w : World) : grow w #[] = w := by cases w; simp [grow]

theorem clone_any (a : Option Addr) (n c : Nat) (xs : List Int) (w : World) (h : IRow w a n xs) (hn : n ≤ 1000000) : Calls Try.prog 47 #[.slice a n c] w (Own xs w) := by
  obtain ⟨rfl, -, hc⟩ := h
  by_cases h0 : xs.length = 0
  · have : xs = [] := List.length_eq_zero_iff.1 h0
    subst this
    cases a with
    | none =>
      refine (Try.slices_Clone_int_nil 0 c w).mono ?_
      rintro e w' ⟨rfl, rfl⟩
      exact ⟨_, rfl, ORow.nil _ _, Below.refl _ _⟩
    | some a =>
      refine (Try.slices_Clone_int_zero a c w).mono ?_
      rintro e w' ⟨v, rfl, hO, -, hb⟩
      exact ⟨v, rfl, hO, hb⟩
  · obtain ⟨b, o, rfl, hl, hx⟩ := hc (by omega)
    refine (Try.slices_Clone_int b o xs.length c xs w (Nat.le_refl _) (by omega) fun j hj => ?_).mono ?_
    · exact hx j _ (by simp [List.getD, List.getElem?_eq_getElem hj])
    · rintro e w' ⟨v, rfl, hO, -, hb⟩
      exact ⟨v, rfl, by rw [List.take_of_length_le (Nat.le_refl _)] at hO; exact hO, hb⟩

theorem rev_own (w : World) (base : Nat) (v : Value) (xs : List Int) (h : ORow w base v xs) (hb : base ≤ w.heap.size) :
    Calls Try.prog 48 #[v] w fun e w' => e = .returned (.tuple #[]) ∧ ORow w' base v xs.reverse ∧ Below base w w' := by
  rcases h.cases with ⟨rfl, rfl⟩ | ⟨g, cap, cur, rfl, h1, h2, h3, h4, h5, h6⟩
  · refine (Try.slices_Reverse_int_empty none 0 w).mono ?_
    rintro e w' ⟨rfl, rfl⟩
    exact ⟨rfl, ORow.nil _ _, Below.refl _ _⟩
  · refine (Try.slices_Reverse_int g 0 cap xs w (holds_of_blockI h2 h6) (by unfold maxLen at h4; omega)).mono ?_
    rintro e w' ⟨rfl, n, rfl⟩
    have k1 := ownsRow_sortedI (w := w) (n := n) (os := #[]) (ss := xs) (ts := xs.reverse) (by simp) h1 h2 h3 h4 (by simpa using h5)
    have k2 := grownBy_sortedI (w := w) (g := g) (n := n) (os := #[]) xs.reverse.toArray
    rw [grow_nil] at k1 k2
    refine ⟨rfl, ?_, (Below.refl base w).grown k2 hb (fun k hk => by simp at hk; omega)⟩
    unfold ORow
    simpa using k1

theorem own_cut {w : World} {base g n cap m : Nat} {zs xs : List Int} (h : w.ownsRow base 3 1 (.slice (some ⟨g, 0, none⟩) n cap) n (zs.map (Value.int .i64))) (hm : m ≤ n) (hx : zs.take m = xs) (hl : xs.length = m) :
    ORow w base (.slice (some ⟨g, 0, none⟩) m cap) xs := by
  rcases h.2 with ⟨h0, _⟩ | ⟨g', cap', cur, hv, h1, h2, h3, h4, h5, h6⟩
  · cases h0
  cases hv
  subst hx
  refine ORow.mk' hl h1 h2 (by omega) h4 (by simpa using h5) ?_
  rw [hl]
  have := congrArg (List.take m) h6
  rw [List.take_take, Nat.min_eq_left (by omega), ← List.map_take] at this
  exact this

/-- Without the one at i. -/
def cutF (xs : List Int) (i : Nat) : List Int := xs.take i ++ xs.drop (i + 1)
theorem del_own (w : World) (base : Nat) (v : Value) (xs : List Int) (i : Nat) (h : ORow w base v xs) (hb : base ≤ w.heap.size) (hi : i < xs.length) :
    Calls Try.prog 49 #[v, .int .i64 (i : Int), .int .i64 ((i + 1 : Nat) : Int)] w (OwnB base (cutF xs i) w) := by
  rcases h.cases with ⟨rfl, rfl⟩ | ⟨g, cap, cur, rfl, h1, h2, h3, h4, h5, h6⟩
  · simp at hi
  · refine (Try.slices_Delete_int g 0 cap i (i + 1) xs w (holds_of_blockI h2 h6) h3 (by unfold maxLen at h4; omega) (by omega) hi).mono ?_
    rintro e w' ⟨rfl, n, rfl⟩
    have hlen : (xs.take i ++ xs.drop (i + 1) ++ List.replicate (i + 1 - i) (0 : Int)).length = xs.length := by simp; omega
    have k1 := ownsRow_sortedI (w := w) (n := n) (os := #[]) (ss := xs) (ts := xs.take i ++ xs.drop (i + 1) ++ List.replicate (i + 1 - i) (0 : Int)) hlen h1 h2 h3 h4 (by simpa using h5)
    have k2 := grownBy_sortedI (w := w) (g := g) (n := n) (os := #[]) (xs.take i ++ xs.drop (i + 1) ++ List.replicate (i + 1 - i) (0 : Int)).toArray
    rw [grow_nil] at k1 k2
    have hl2 : (cutF xs i).length = xs.length - (i + 1 - i) := by simp [cutF]; omega
    exact ⟨_, rfl, own_cut k1 (by omega) (by rw [← hl2]; exact List.take_left' rfl) hl2, (Below.refl base w).grown k2 hb (fun k hk => by simp at hk; omega)⟩

/-- With these put in at i. -/
def putF (xs ys : List Int) (i : Nat) : List Int := xs.take i ++ ys ++ xs.drop i
theorem putF_len (xs ys : List Int) (i : Nat) (hi : i ≤ xs.length) : (putF xs ys i).length = xs.length + ys.length := by simp [putF]; omega
theorem put_get (xs ys : List Int) (i j : Nat) (hi : i ≤ xs.length) : ((putF xs ys i).map (Value.int .i64))[j]? = if j < i then (xs.map (Value.int .i64))[j]? else if j < i + ys.length then (ys.map (Value.int .i64))[j - i]? else (xs.map (Value.int .i64))[j - ys.length]? := by
  simp only [putF, List.map_append, List.append_assoc]
  rw [List.getElem?_append]
  have hl : (List.map (Value.int IntKind.i64) (List.take i xs)).length = i := by simp; omega
  rw [hl]
  by_cases h1 : j < i
  · rw [if_pos h1, if_pos h1, List.map_take, List.getElem?_take_of_lt h1]
  · rw [if_neg h1, if_neg h1, List.getElem?_append]
    by_cases h2 : j < i + ys.length
    · rw [if_pos h2, if_pos (by simp; omega)]
    · rw [if_neg h2, if_neg (by simp; omega), List.map_drop, List.getElem?_drop]
      congr 1
      simp
      omega
theorem own_rowIs {w : World} {base g n cap : Nat} {f : Nat → Value} {xs : List Int} (h : w.rowIs g 3 cap f) (h1 : base ≤ g) (h2 : n ≤ cap) (h3 : cap ≤ maxLen) (hl : xs.length = n) (hf : ∀ j, j < n → some (f j) = (xs.map (Value.int .i64))[j]?) :
    ORow w base (.slice (some ⟨g, 0, none⟩) n cap) xs := by
  obtain ⟨c, hb, hc, hi⟩ := h
  refine ORow.mk' hl h1 hb (by omega) h3 hc ?_
  apply List.ext_getElem?
  intro j
  by_cases hj : j < n
  · rw [List.getElem?_take_of_lt (by omega), Array.getElem?_toList, hi j (by omega), hf j hj]
  · rw [List.getElem?_eq_none (by simp; omega), List.getElem?_eq_none (by simp; omega)]
theorem rowIs_cur {w : World} {g cap : Nat} {cur : Array Value} (h : w.heap[g]? = some (.cells cur 3 (0, 0))) (hc : cur.size = cap) : w.rowIs g 3 cap (fun j => cur[j]?.getD default) :=
  ⟨cur, h, hc, fun i hi => by simp [show i < cur.size by omega]⟩
theorem one_ints (xs : List Int) : ∀ v ∈ xs.map (Value.int .i64), v.oneCell' = true := by
  intro v hv
  obtain ⟨x, _, rfl⟩ := List.mem_map.1 hv
  rfl
/-- A row that lies at the head of a plain block of ints, below a mark. -/
def PRow (w : World) (base : Nat) (a : Option Addr) (ys : List Int) : Prop := 0 < ys.length → ∃ vb cur, a = some ⟨vb, 0, none⟩ ∧ vb < base ∧ w.heap[vb]? = some (.cells cur 3 (0, 0)) ∧ cur.toList.take ys.length = ys.map (Value.int .i64)
theorem take_cell {w : World} {vb n : Nat} {cur : Array Value} {t : TypeId} {vs : List Value} (h : w.heap[vb]? = some (.cells cur t (0, 0))) (ht : cur.toList.take n = vs) (hn : vs.length ≤ n) : ∀ j v, vs[j]? = some v → w.cell? ⟨vb, 0 + j, none⟩ = some v := by
  intro j v hj
  have hb : Blk w vb cur t := h
  rw [hb.cell]
  have : j < vs.length := by
    rcases Nat.lt_or_ge j vs.length with h | h
    · exact h
    · rw [List.getElem?_eq_none h] at hj; cases hj
  have h2 : (cur.toList.take n)[j]? = vs[j]? := by rw [ht]
  rw [List.getElem?_take_of_lt (by omega), Array.getElem?_toList] at h2
  rw [Nat.zero_add, h2, hj]

theorem own_grown (w : World) (base n capg : Nat) (T : List Int) (hb : base ≤ w.heap.size) (hn : T.length = n) (h1 : n ≤ capg) (h2 : capg ≤ maxLen) :
    ORow (w.drew.alloc (.cells ((T.map (Value.int .i64)).toArray ++ Builtin.zeroCells (Value.int .i64 0).cells (capg - n)) 3)) base (.slice (some ⟨w.heap.size, 0, none⟩) n capg) T := by
  refine ORow.mk' hn hb (Blk.new w.drew _ 3) (by omega) h2 ?_ ?_
  · rw [Array.size_append, size_zeroCells]
    simp [Value.cells]
    omega
  · rw [Array.toList_append, List.take_append_of_le_length (by simp), List.take_of_length_le (by simp)]
theorem putF_end (xs ys : List Int) : putF xs ys xs.length = xs ++ ys := by simp [putF]

theorem ins_own (w : World) (base : Nat) (v : Value) (xs ys : List Int) (i : Nat) (va : Option Addr) (vc : Nat) (h : ORow w base v xs) (hb : base ≤ w.heap.size) (hi : i ≤ xs.length) (hx : xs.length ≤ 1000000) (hy : ys.length ≤ 1000000) (hv : PRow w base va ys) :
    Calls Try.prog 50 #[v, .int .i64 (i : Int), .slice va ys.length vc] w (OwnB base (putF xs ys i) w) := by
  have hpl := putF_len xs ys i hi
  by_cases hm : ys.length = 0
  · have hnil : ys = [] := List.length_eq_zero_iff.1 hm
    subst hnil
    have hp : putF xs [] i = xs := by simp [putF]
    rw [hp]
    have hm0 : ((([] : List Int).length : Nat) : Int) = 0 := rfl
    obtain ⟨a, cap, rfl, hI, hc⟩ := h.irow (by omega)
    have H := Lib.hid h
    clear h hI hv hpl hp
    have i0 : (0 : Int) ≤ (i : Int) := Int.natCast_nonneg _
    have i1 : (i : Int) ≤ (xs.length : Int) := by omega
    go_enter Try.func50, Try.ntmps50
    go_wp2_with fail
    all_goals go_light
    all_goals go_ret
    all_goals first
      | exact ⟨.slice a xs.length cap, rfl, H.out, Below.refl _ _⟩
      | exact ⟨.slice a xs.length i, rfl, (show cap = i by omega) ▸ H.out, Below.refl _ _⟩
  · obtain ⟨vb, vcur, rfl, hvb, hvh, hvt⟩ := hv (by omega)
    have hvs := take_cell hvh hvt (by simp)
    have hmax : ∀ k, k ≤ 4000000 → k ≤ maxLen := fun k hk => by unfold maxLen; omega
    have h1y := one_ints ys
    have h1x := one_ints xs
    rcases h.cases with ⟨rfl, rfl⟩ | ⟨g, cap, cur, rfl, h1, h2, h3, h4, h5, h6⟩
    · have hi0 : i = 0 := by simpa using hi
      subst hi0
      refine (Any2.slices_Insert_int_end_grow Try.laysNm221 none 0 0 vb 0 ys.length vc [] (ys.map (Value.int .i64)) w (by omega) (Nat.le_refl _) (by omega) (by omega) rfl (by simp) (fun _ => rfl) (fun _ h => by cases h) hvs h1y).mono ?_
      rintro e w' ⟨rfl, rfl⟩
      have k := own_grown w base (0 + ys.length) (grownCap w (0 + ys.length) 0 3) ([] ++ ys) hb (by simp) (grownCap_ge _ _ _ _) (grownCap_le_maxLen _ _ _ _ (hmax _ (by omega)))
      rw [show putF [] ys 0 = [] ++ ys by simp [putF]]
      exact ⟨_, rfl, k, (Below.refl base w).drew.alloc hb _⟩
    · have hcx := take_cell h2 h6 (by simp)
      have hR := rowIs_cur h2 h5
      have hf2 : ∀ k, w.frozen? ⟨g, k, none⟩ = false := fun k => hR.frozen k
      have hsm : ∀ k, k < cap → (w.cell? ⟨g, k, none⟩).isSome = true := fun k hk => by rw [hR.cell hk]; rfl
      have hbw : Below base w w := Below.refl base w
      by_cases hin : i = xs.length
      · subst hin
        rw [putF_end] at hpl ⊢
        by_cases hroom : xs.length + ys.length ≤ cap
        · refine (Any2.slices_Insert_int_end_room Try.laysNm221 g 0 xs.length cap vb 0 ys.length vc (ys.map (Value.int .i64)) w (by omega) hroom (by unfold maxLen at h4; omega) (by simp) (fun j hj => hsm _ (by omega)) (fun j _ => hf2 _) hvs h1y).mono ?_
          rintro e w' ⟨rfl, rfl⟩
          refine ⟨_, rfl, own_rowIs (rowIs_setCells (ys.map (Value.int .i64)) (0 + xs.length) w _ hR) h1 hroom h4 (by simp) (fun j hj => ?_), below_setCells h1 _ _ _ hbw⟩
          have hp := put_get xs ys xs.length j (Nat.le_refl _)
          rw [putF_end] at hp
          rw [hp]
          by_cases hj1 : j < xs.length
          · rw [if_pos hj1, if_neg (by omega), ← h6, List.getElem?_take_of_lt hj1, Array.getElem?_toList]
            simp [show j < cur.size by omega]
          · have hyl : (ys.map (Value.int .i64)).length = ys.length := by simp
            rw [if_neg hj1, if_pos (by omega), if_pos (by omega), Nat.zero_add, List.getElem?_eq_getElem (by omega)]
            rfl
        · refine (Any2.slices_Insert_int_end_grow Try.laysNm221 (some ⟨g, 0, none⟩) xs.length cap vb 0 ys.length vc (xs.map (Value.int .i64)) (ys.map (Value.int .i64)) w (by omega) h3 (by omega) (by omega) (by simp) (by simp) (fun h => by cases h) (fun a h j v hj => by cases h; have := hcx j v hj; by_cases h0 : j = 0 <;> simp_all [Addr.add]) hvs h1y).mono ?_
          rintro e w' ⟨rfl, rfl⟩
          have k := own_grown w base (xs.length + ys.length) (grownCap w (xs.length + ys.length) cap 3) (xs ++ ys) hb (by simp) (grownCap_ge _ _ _ _) (grownCap_le_maxLen _ _ _ _ (hmax _ (by omega)))
          rw [List.map_append] at k
          exact ⟨_, rfl, k, (Below.refl base w).drew.alloc hb _⟩
      · have hlt : i < xs.length := by omega
        have hne : vb ≠ g := by omega
        have hvf : ∀ k, w.frozen? ⟨vb, k, none⟩ = false := fun k => Blk.free (show Blk w vb vcur 3 from hvh) k
        by_cases hroom : xs.length + ys.length ≤ cap
        · refine (Any2.slices_Insert_int_shift Try.laysNm221 g 0 xs.length cap i vb 0 ys.length vc (xs.map (Value.int .i64)) (ys.map (Value.int .i64)) w hlt (by omega) hroom (by unfold maxLen at h4; omega) hne (by simp) (by simp) hcx (fun j hj => hsm _ (by omega)) (fun j _ => hf2 _) hvs h1x h1y
            3 3 vcur.size cur.size ?s1 ?s2 (by omega) (hvf _) (hvf _)).mono ?_
          case s1 => simp [World.shape?, hvh]
          case s2 => simp [World.shape?, h2]
          rintro e w' ⟨rfl, rfl⟩
          refine ⟨_, rfl, own_rowIs (rowIs_setCells _ _ _ _ (rowIs_setCells _ _ w.drew _ hR)) h1 hroom h4 hpl (fun j hj => ?_), below_setCells h1 _ _ _ (below_setCells h1 _ _ _ hbw.drew)⟩
          rw [put_get xs ys i j hi]
          simp only [Nat.zero_add, List.length_map, List.length_drop]
          by_cases hj1 : j < i
          · rw [if_pos hj1, if_neg (by omega), if_neg (by omega), ← h6, List.getElem?_take_of_lt (by omega), Array.getElem?_toList]
            simp [show j < cur.size by omega]
          · rw [if_neg hj1]
            by_cases hj2 : j < i + ys.length
            · rw [if_pos hj2, if_pos (by omega), List.getElem?_eq_getElem (by simp; omega)]
              rfl
            · rw [if_neg hj2, if_neg (by omega), if_pos (by omega), List.getElem?_drop, show i + (j - (i + ys.length)) = j - ys.length by omega, List.getElem?_eq_getElem (by simp; omega)]
              rfl
        · refine (Any2.slices_Insert_int_grow Try.laysNm221 g 0 xs.length cap i vb 0 ys.length vc (xs.map (Value.int .i64)) (ys.map (Value.int .i64)) w hlt (by omega) h3 (by omega) (by omega) (by simp) (by simp) hcx hvs h1x h1y).mono ?_
          rintro e w' ⟨rfl, rfl⟩
          obtain ⟨capg, hcg⟩ : ∃ capg, capg = grownCap w (xs.length + ys.length) cap 3 := ⟨_, rfl⟩
          have hg1 : xs.length + ys.length ≤ capg := by rw [hcg]; exact grownCap_ge _ _ _ _
          have hg2 : capg ≤ maxLen := by rw [hcg]; exact grownCap_le_maxLen _ _ _ _ (hmax _ (by omega))
          show OwnB base (putF xs ys i) w (.returned (.slice (some ⟨w.heap.size, 0, none⟩) (xs.length + ys.length) (grownCap w (xs.length + ys.length) cap 3))) ((((w.alloc (.cells (((xs.map (Value.int .i64)).take i).toArray ++ Builtin.zeroCells (Value.int .i64 0).cells (xs.length + ys.length - i) ++ Builtin.zeroCells (Value.int .i64 0).cells (grownCap w (xs.length + ys.length) cap 3 - (xs.length + ys.length))) 3)).drew.setCells w.heap.size i (ys.map (Value.int .i64))).drew).setCells w.heap.size (i + ys.length) ((xs.map (Value.int .i64)).drop i))
          rw [← hcg]
          generalize hC : ((xs.map (Value.int .i64)).take i).toArray ++ Builtin.zeroCells (Value.int .i64 0).cells (xs.length + ys.length - i) ++ Builtin.zeroCells (Value.int .i64 0).cells (capg - (xs.length + ys.length)) = C
          have hCs : C.size = capg := by
            rw [← hC, Array.size_append, Array.size_append, size_zeroCells, size_zeroCells]
            simp [Value.cells]
            omega
          have hR2 := World.rowIs_alloc w C 3 (fun k => C[k]?.getD default) (fun k hk => by simp [hk])
          rw [hCs] at hR2
          have hR3 := rowIs_setCells ((xs.map (Value.int .i64)).drop i) (i + ys.length) _ _ ((rowIs_setCells (ys.map (Value.int .i64)) i _ _ hR2.drew).drew)
          refine ⟨_, rfl, own_rowIs hR3 hb hg1 hg2 hpl (fun j hj => ?_), below_setCells hb _ _ _ (below_setCells hb _ _ _ (hbw.alloc hb _).drew).drew⟩
          rw [put_get xs ys i j hi]
          simp only [List.length_map, List.length_drop]
          by_cases hj1 : j < i
          · have hlen1 : (((xs.map (Value.int .i64)).take i).toArray).size = i := by simp; omega
            have e1 : C[j]? = (xs.map (Value.int .i64))[j]? := by
              rw [← hC, Array.getElem?_append_left (by rw [Array.size_append, hlen1]; omega), Array.getElem?_append_left (by rw [hlen1]; omega), List.getElem?_toArray, List.getElem?_take_of_lt hj1]
            rw [if_pos hj1, if_neg (by omega), if_neg (by omega), e1, List.getElem?_eq_getElem (by simp; omega)]
            rfl
          · rw [if_neg hj1]
            by_cases hj2 : j < i + ys.length
            · rw [if_pos hj2, if_neg (by omega), if_pos (by omega), List.getElem?_eq_getElem (by simp; omega)]
              rfl
            · rw [if_neg hj2, if_pos (by omega), List.getElem?_drop, show i + (j - (i + ys.length)) = j - ys.length by omega, List.getElem?_eq_getElem (by simp; omega)]
              rfl
end Go.Proofs.Ytpnlhkpibgngbaa
