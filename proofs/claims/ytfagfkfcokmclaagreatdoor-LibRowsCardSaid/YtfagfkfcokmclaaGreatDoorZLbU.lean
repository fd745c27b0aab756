/- Texts put together: LbU, LbT. -/
import Derived.Test.YtfagfkfcokmclaaGreatDoorZMgB
import Derived.Lib.MapLaws
import Derived.Lib.ValidLaws
import Derived.Lib.RuneCount
import Derived.Laws.Cover4
import Derived.Laws.IdiomStrings
import Derived.Lib.IndexMore
section
set_option linter.unusedSimpArgs false
set_option linter.unusedVariables false
namespace Go.Proofs.YtfagfkfcokmclaaGreatDoor

/-- What decodes well decodes the same whatever stands behind it. -/
theorem dec_same (l m : List UInt8) (hne : l ≠ []) (hv : ¬ ((Lib.decodeL l).1 = 65533 ∧ (Lib.decodeL l).2 = 1)) (h : m.take (Lib.decodeL l).2 = l.take (Lib.decodeL l).2) : Lib.decodeL m = Lib.decodeL l := by
  have hle := Lib.decodeL_le l hne
  have hml : (Lib.decodeL l).2 ≤ m.length := by
    have := congrArg List.length h
    simp only [List.length_take] at this
    omega
  have hg : ∀ i, i < (Lib.decodeL l).2 → m.getD i 0 = l.getD i 0 := fun i hi => by
    rw [← Lib.getD_takeU m _ i hi, ← Lib.getD_takeU l _ i hi, h]
  clear h hle
  rw [Lib.decodeL_N m]
  rw [Lib.decodeL_N l] at hv hml hg ⊢
  have k0 := (l.getD 0 0).toNat_lt
  have k1 := (l.getD 1 0).toNat_lt
  have k2 := (l.getD 2 0).toNat_lt
  have k3 := (l.getD 3 0).toNat_lt
  rcases Lib.decodeN_shape l.length (l.getD 0 0).toNat (l.getD 1 0).toNat (l.getD 2 0).toNat (l.getD 3 0).toNat with ⟨c, e⟩ | ⟨c1, c2, c3, cv, e⟩ | ⟨c1, c2, c3, c4, cv, cs, e⟩ | ⟨c1, c2, c3, c4, c5, cv, cw, e⟩ | e
  · rw [e] at hg ⊢
    rw [hg 0 (by show 0 < 1; omega)]
    exact Lib.decodeN_ascii _ _ _ _ _ c
  · rw [e] at hg hml ⊢
    rw [hg 0 (by show 0 < 2; omega), hg 1 (by show 1 < 2; omega)]
    have hml : 2 ≤ m.length := hml
    unfold Lib.decodeN
    rw [if_neg (by omega), if_pos ⟨c1, by omega, c3⟩, if_pos cv]
  · rw [e] at hg hml ⊢
    rw [hg 0 (by show 0 < 3; omega), hg 1 (by show 1 < 3; omega), hg 2 (by show 2 < 3; omega)]
    have hml : 3 ≤ m.length := hml
    unfold Lib.decodeN
    rw [if_neg (by omega), if_neg (by omega), if_pos ⟨c1, ⟨by omega, c3⟩, by omega, c4⟩, if_pos ⟨cv, by omega⟩]
  · rw [e] at hg hml ⊢
    rw [hg 0 (by show 0 < 4; omega), hg 1 (by show 1 < 4; omega), hg 2 (by show 2 < 4; omega), hg 3 (by show 3 < 4; omega)]
    have hml : 4 ≤ m.length := hml
    unfold Lib.decodeN
    rw [if_neg (by omega), if_neg (by omega), if_neg (by omega), if_pos ⟨c1, ⟨by omega, c3⟩, ⟨by omega, c4⟩, by omega, c5⟩, if_pos ⟨cv, by omega⟩]
  · exact absurd (by rw [e]; exact ⟨rfl, rfl⟩) hv
/-- The characters of a text. -/
def ptsGo : Nat → List UInt8 → List Int
  | 0, _ => []
  | n + 1, l => if l = [] then [] else ((Lib.decodeL l).1 : Int) :: ptsGo n (l.drop (Lib.decodeL l).2)
def ptsD (l : List UInt8) : List Int := ptsGo l.length l
theorem ptsGo_nil : ∀ n, ptsGo n [] = []
  | 0 => rfl
  | _ + 1 => by simp [ptsGo]
theorem ptsGo_fuel : ∀ (n m : Nat) (l : List UInt8), l.length ≤ n → l.length ≤ m → ptsGo n l = ptsGo m l
  | 0, m, l, hn, _ => by
    have : l = [] := List.eq_nil_of_length_eq_zero (by omega)
    subst this
    rw [ptsGo_nil, ptsGo_nil]
  | n + 1, 0, l, _, hm => by
    have : l = [] := List.eq_nil_of_length_eq_zero (by omega)
    subst this
    rw [ptsGo_nil, ptsGo_nil]
  | n + 1, m + 1, l, hn, hm => by
    unfold ptsGo
    by_cases hne : l = []
    · simp [hne]
    · have hw := Lib.decodeL_width l
      have hl : 0 < l.length := List.length_pos_iff.2 hne
      rw [if_neg hne, if_neg hne, ptsGo_fuel n m (l.drop (Lib.decodeL l).2) (by rw [List.length_drop]; omega) (by rw [List.length_drop]; omega)]
theorem ptsD_nil : ptsD [] = [] := rfl
theorem ptsD_step (l : List UInt8) (hne : l ≠ []) : ptsD l = ((Lib.decodeL l).1 : Int) :: ptsD (l.drop (Lib.decodeL l).2) := by
  have hl : 0 < l.length := List.length_pos_iff.2 hne
  have hw := Lib.decodeL_width l
  obtain ⟨n, hn⟩ : ∃ n, l.length = n + 1 := ⟨l.length - 1, by omega⟩
  unfold ptsD
  rw [hn]
  show (if l = [] then [] else _) = _
  rw [if_neg hne, ptsGo_fuel n (l.drop (Lib.decodeL l).2).length _ (by rw [List.length_drop]; omega) (Nat.le_refl _)]
theorem pts_app (l m : List UInt8) (hv : Lib.validD l = true) : ptsD (l ++ m) = ptsD l ++ ptsD m := by
  induction hn : l.length using Nat.strongRecOn generalizing l with
  | ind n ih =>
    by_cases hne : l = []
    · subst hne; rfl
    · rw [Lib.validD_step l hne] at hv
      split at hv
      · cases hv
      · next hb =>
        have hle := Lib.decodeL_le l hne
        have hw := Lib.decodeL_width l
        have hl : 0 < l.length := List.length_pos_iff.2 hne
        have hs := dec_same l (l ++ m) hne hb (by rw [List.take_append_of_le_length hle])
        rw [ptsD_step (l ++ m) (by simp [hne]), hs, ptsD_step l hne, List.cons_append, List.drop_append_of_le_length hle, ih _ (by rw [List.length_drop]; omega) _ hv rfl]
/-- The characters make the text again. -/
theorem pts_enc (l : List UInt8) (hv : Lib.validD l = true) : (ptsD l).flatMap Lib.encodeRune = l := by
  induction hn : l.length using Nat.strongRecOn generalizing l with
  | ind n ih =>
    by_cases hne : l = []
    · subst hne; rfl
    · rw [Lib.validD_step l hne] at hv
      split at hv
      · cases hv
      · next hb =>
        have hw := Lib.decodeL_width l
        have hl : 0 < l.length := List.length_pos_iff.2 hne
        rw [ptsD_step l hne, List.flatMap_cons, Lib.encode_decode l hne hb, ih _ (by rw [List.length_drop]; omega) _ hv rfl, List.take_append_drop]
/-- The first characters of a text are one. -/
theorem pts_take (l : List UInt8) (hv : Lib.validD l = true) (k : Nat) : ptsD (((ptsD l).take k).flatMap Lib.encodeRune) = (ptsD l).take k := by
  induction hn : l.length using Nat.strongRecOn generalizing l k with
  | ind n ih =>
    by_cases hne : l = []
    · subst hne; simp [ptsD_nil]
    · rw [Lib.validD_step l hne] at hv
      split at hv
      · cases hv
      · next hb =>
        have hw := Lib.decodeL_width l
        have hl : 0 < l.length := List.length_pos_iff.2 hne
        have hle := Lib.decodeL_le l hne
        cases k with
        | zero => simp [ptsD_nil]
        | succ k =>
          have hr := ih _ (by rw [List.length_drop]; omega) (l.drop (Lib.decodeL l).2) hv k rfl
          rw [ptsD_step l hne, List.take_succ_cons, List.flatMap_cons, Lib.encode_decode l hne hb]
          have ht : (l.take (Lib.decodeL l).2).length = (Lib.decodeL l).2 := by rw [List.length_take]; omega
          have hs := dec_same l (l.take (Lib.decodeL l).2 ++ ((ptsD (l.drop (Lib.decodeL l).2)).take k).flatMap Lib.encodeRune) hne hb (by rw [List.take_left' ht])
          rw [ptsD_step _ (by
            intro h0
            have := congrArg List.length h0
            rw [List.length_append, ht] at this
            simp at this
            omega), hs, List.drop_left' ht, hr]
theorem pts_count (s : ByteArray) : ∀ fuel pos, Lib.runeCountFrom s fuel pos = (ptsGo fuel (s.data.toList.drop pos)).length
  | 0, _ => rfl
  | fuel + 1, pos => by
    unfold Lib.runeCountFrom ptsGo
    have hs : s.data.toList.length = s.size := by simp
    by_cases h : pos < s.size
    · rw [if_pos h, if_neg (by
        intro h0
        have := congrArg List.length h0
        rw [List.length_drop, hs] at this
        simp at this
        omega), Lib.decodeL_drop, List.length_cons, pts_count s fuel, List.drop_drop]
      omega
    · rw [if_neg h, if_pos (List.drop_eq_nil_of_le (by omega))]
      rfl
theorem count_pts (s : ByteArray) : Lib.runeCount s = (ptsD s.data.toList).length := by
  unfold Lib.runeCount ptsD
  rw [pts_count, List.drop_zero]
  have hs : s.data.toList.length = s.size := by simp
  rw [hs]
theorem runes_go (s : ByteArray) : ∀ bound i (acc : Array Value), Conv.runesFrom s bound i acc = acc ++ ((ptsGo bound (s.data.toList.drop i)).map (Value.int .i32)).toArray
  | 0, _, acc => by simp [Conv.runesFrom, ptsGo]
  | bound + 1, i, acc => by
    have hs : s.data.toList.length = s.size := by simp
    have hstep : Conv.runesFrom s (bound + 1) i acc = if i < s.size then Conv.runesFrom s bound (i + (Utf8.decode s i).2) (acc.push (.int .i32 ((Utf8.decode s i).1 : Int))) else acc := rfl
    rw [hstep]
    by_cases h : i < s.size
    · rw [if_pos h]
      have hp : ptsGo (bound + 1) (s.data.toList.drop i) = ((Utf8.decode s i).1 : Int) :: ptsGo bound ((s.data.toList.drop i).drop (Utf8.decode s i).2) := by
        rw [← Lib.decodeL_drop]
        show (if _ then _ else _) = _
        rw [if_neg (by
          intro h0
          have := congrArg List.length h0
          rw [List.length_drop, hs] at this
          simp at this
          omega)]
      rw [hp, runes_go s bound, List.drop_drop]
      generalize Utf8.decode s i = d
      apply Array.ext'
      simp
    · rw [if_neg h, List.drop_eq_nil_of_le (by omega), ptsGo_nil]
      simp
theorem runes_pts (s : ByteArray) : Conv.runesFrom s s.size 0 #[] = ((ptsD s.data.toList).map (Value.int .i32)).toArray := by
  rw [runes_go, List.drop_zero]
  have hs : s.data.toList.length = s.size := by simp
  unfold ptsD
  rw [hs]
  simp
theorem pts_len (l : List UInt8) : (ptsD l).length ≤ l.length := by
  have : ∀ n l, (ptsGo n l).length ≤ n := by
    intro n
    induction n with
    | zero => intro l; simp [ptsGo]
    | succ n ih =>
      intro l
      unfold ptsGo
      split
      · simp
      · rw [List.length_cons]; have := ih (l.drop (Lib.decodeL l).2); omega
  exact this _ _
theorem pts_range (l : List UInt8) : ∀ r ∈ ptsD l, 0 ≤ r ∧ r ≤ 1114111 := by
  have : ∀ n l, ∀ r ∈ ptsGo n l, 0 ≤ r ∧ r ≤ 1114111 := by
    intro n
    induction n with
    | zero => intro l r hr; simp [ptsGo] at hr
    | succ n ih =>
      intro l r hr
      unfold ptsGo at hr
      split at hr
      · simp at hr
      · rcases List.mem_cons.1 hr with rfl | hr
        · have := Lib.decodeL_rune l
          omega
        · exact ih _ _ hr
  exact this _ _
theorem enc_same (r : Int) (h0 : 0 ≤ r) : (Utf8.encode r).data.toList = Lib.encodeRune r := by
  obtain ⟨n, rfl⟩ : ∃ n : Nat, r = (n : Int) := ⟨r.toNat, by omega⟩
  have hb : ∀ x : Nat, ((x : Int)).toNat.toUInt8 = UInt8.ofNat x := fun x => by simp
  unfold Lib.encodeRune
  by_cases c1 : n < 128
  · have v : Utf8.valid (n : Int) = true := by simp [Utf8.valid]; omega
    rw [Lib.encodeRuneZ_one (by omega) (by omega)]
    simp [Utf8.encode, v, c1]
  by_cases c2 : n < 2048
  · have v : Utf8.valid (n : Int) = true := by simp [Utf8.valid]; omega
    rw [Lib.encodeRuneZ_two (by omega) (by omega)]
    have a1 : (192 + (n : Int) / 64).toNat = 192 + n / 64 := by omega
    have a2 : (128 + (n : Int) % 64).toNat = 128 + n % 64 := by omega
    simp [Utf8.encode, v, c1, c2, a1, a2]
  by_cases hbad : (55296 ≤ n ∧ n ≤ 57343) ∨ 1114111 < n
  · have v : Utf8.valid (n : Int) = false := by simp [Utf8.valid]; omega
    rw [Lib.encodeRuneZ_bad (by omega)]
    simp [Utf8.encode, v, Utf8.runeError]
  by_cases c3 : n < 65536
  · have v : Utf8.valid (n : Int) = true := by simp [Utf8.valid]; omega
    rw [Lib.encodeRuneZ_three (by omega)]
    have a1 : (224 + (n : Int) / 4096).toNat = 224 + n / 4096 := by omega
    have a2 : (128 + (n : Int) / 64 % 64).toNat = 128 + n / 64 % 64 := by omega
    have a3 : (128 + (n : Int) % 64).toNat = 128 + n % 64 := by omega
    simp [Utf8.encode, v, c1, c2, c3, a1, a2, a3]
  · have v : Utf8.valid (n : Int) = true := by simp [Utf8.valid]; omega
    rw [Lib.encodeRuneZ_four (by omega) (by omega)]
    have a0 : (240 + (n : Int) / 262144).toNat = 240 + n / 262144 := by omega
    have a1 : (128 + (n : Int) / 4096 % 64).toNat = 128 + n / 4096 % 64 := by omega
    have a2 : (128 + (n : Int) / 64 % 64).toNat = 128 + n / 64 % 64 := by omega
    have a3 : (128 + (n : Int) % 64).toNat = 128 + n % 64 := by omega
    simp [Utf8.encode, v, c1, c2, c3, a0, a1, a2, a3]
theorem runesBytes_enc (ns : List Int) (h : ∀ r ∈ ns, 0 ≤ r) : (runesBytes ns).data.toList = ns.flatMap Lib.encodeRune := by
  have : ∀ (ns : List Int) (s : ByteArray), (∀ r ∈ ns, 0 ≤ r) → (ns.foldl (fun r n => r ++ Utf8.encode n) s).data.toList = s.data.toList ++ ns.flatMap Lib.encodeRune := by
    intro ns
    induction ns with
    | nil => intro s _; simp
    | cons n ns ih =>
      intro s hn
      rw [List.foldl_cons, ih _ (fun r hr => hn r (List.mem_cons_of_mem _ hr)), List.flatMap_cons, ← enc_same n (hn n List.mem_cons_self)]
      simp [ByteArray.data_append]
  unfold runesBytes
  rw [this ns _ h]
  simp
end Go.Proofs.YtfagfkfcokmclaaGreatDoor
end
section
set_option linter.unusedSimpArgs false
set_option linter.unusedVariables false
namespace Go.Proofs.YtfagfkfcokmclaaGreatDoor

theorem cut_true {s t : List UInt8} {i : Nat} (hi : i ≤ s.length) (h : Lib.occAt s t i = true) : (Lib.cut s t).2.2 = true := by
  rcases Lib.index_spec s t with ⟨-, h2⟩ | ⟨j, h1, -⟩
  · rw [h2 i hi] at h; cases h
  · unfold Lib.cut
    rw [if_pos (by omega)]
theorem cut_head (a b : List UInt8) : (Lib.cut (a ++ b) a).2.2 = true :=
  cut_true (i := 0) (Nat.zero_le _) (by unfold Lib.occAt; simp)
theorem cut_tail (a b : List UInt8) : (Lib.cut (a ++ b) b).2.2 = true :=
  cut_true (i := a.length) (by simp) (by unfold Lib.occAt; simp)
theorem cut_whole {s t : List UInt8} (h : (Lib.cut s t).2.2 = true) : (Lib.cut s t).1 ++ t ++ (Lib.cut s t).2.1 = s := by
  rcases Lib.index_spec s t with ⟨h1, -⟩ | ⟨i, h1, -, h3, -⟩
  · unfold Lib.cut at h
    rw [if_neg (by omega)] at h
    cases h
  · unfold Lib.cut
    rw [if_pos (by omega), h1]
    have hp : t <+: s.drop i := List.isPrefixOf_iff_prefix.1 h3
    obtain ⟨r, hr⟩ := hp
    simp only [Int.toNat_natCast]
    rw [List.append_assoc, show s.drop (i + t.length) = r by rw [← List.drop_drop, ← hr, List.drop_left], hr, List.take_append_drop]
theorem cut_no {s t : List UInt8} (h : (Lib.cut s t).2.2 = false) : Lib.cut s t = (s, [], false) := by
  unfold Lib.cut at h ⊢
  split at h
  · cases h
  · rename_i hn
    rw [if_neg hn]
theorem pre_head (a b : List UInt8) : Lib.hasPrefix (a ++ b) a = true := by unfold Lib.hasPrefix; simp
theorem suf_tail (a b : List UInt8) : Lib.hasSuffix (a ++ b) b = true := by
  unfold Lib.hasSuffix
  rw [List.isSuffixOf_iff_suffix]
  exact ⟨a, rfl⟩
/-- A valid text's characters beside another's. -/
theorem count_app (s t : ByteArray) (hv : Lib.validD s.data.toList = true) : Lib.runeCount (s ++ t) = Lib.runeCount s + Lib.runeCount t := by
  rw [count_pts, count_pts, count_pts, show (s ++ t).data.toList = s.data.toList ++ t.data.toList by simp [ByteArray.data_append], pts_app _ _ hv, List.length_append]
theorem validD_of {s : ByteArray} (h : validF s = true) : Lib.validD s.data.toList = true := by
  rw [← cvalid_valid] at h
  unfold cvalidF at h
  exact (Bool.and_eq_true_iff.1 h).1
end Go.Proofs.YtfagfkfcokmclaaGreatDoor
end
