/- Parts of the law SerialParts, plain. -/
import Derived.Test.YtgdbbocfiejlfaaSeQ
import Derived.Test.YtgdbbocfiejlfaaSeP
set_option linter.unusedSimpArgs false
set_option linter.unusedVariables false
set_option linter.constructorNameAsVariable false
namespace Go.Proofs.Ytgdbbocfiejlfaa
open Go.RowKit

theorem text_ok {h : Nat} {ts : List (Tr h)} (hk : oks h ts = true) : textO h ts = outs h ts ∧ errO h ts = 0 := by
  unfold textO errO
  rw [if_pos hk, if_pos hk]
  exact ⟨rfl, rfl⟩
theorem text_no {h : Nat} {ts : List (Tr h)} (hk : oks h ts = false) : textO h ts = [] ∧ errO h ts = 57 := by
  unfold textO errO
  rw [if_neg (by rw [hk]; decide), if_neg (by rw [hk]; decide)]
  exact ⟨rfl, rfl⟩
theorem cat_arr (A B : List UInt8) : (⟨A.toArray⟩ : ByteArray) ++ ⟨B.toArray⟩ = ⟨(A ++ B).toArray⟩ := by
  apply ByteArray.ext
  simp
theorem oks_no {h : Nat} {ts : List (Tr h)} {x : Tr h} (hx : x ∈ ts) (hk : okF h x = false) : oks h ts = false := by
  unfold oks
  rw [List.all_eq_false]
  exact ⟨x, hx, by rw [hk]; decide⟩
theorem tmod_lt (a : Int) (n : Nat) : -((n : Int) + 1) < a.tmod ((n : Int) + 1) ∧ a.tmod ((n : Int) + 1) < (n : Int) + 1 := by
  have h1 := Int.lt_tmod_of_pos a (show (0 : Int) < (n : Int) + 1 by omega)
  have h2 := Int.tmod_lt_of_pos a (show (0 : Int) < (n : Int) + 1 by omega)
  omega
theorem RepS.app {S : Nat → Prop} {h : Nat} {w : World} {xs ys : List (Tr h)} {vs us : List C5} (H : RepS S h w xs vs) (G : RepS S h w ys us) : RepS S h w (xs ++ ys) (vs ++ us) := by
  refine ⟨by rw [List.length_append, List.length_append, H.1, G.1], fun j x c hx hc => ?_⟩
  rcases Nat.lt_or_ge j xs.length with h' | h'
  · rw [List.getElem?_append_left h'] at hx
    rw [List.getElem?_append_left (by rw [H.1]; exact h')] at hc
    exact H.2 j x c hx hc
  · rw [List.getElem?_append_right h'] at hx
    rw [List.getElem?_append_right (by rw [H.1]; exact h'), H.1] at hc
    exact G.2 _ x c hx hc
theorem RepS.take {S : Nat → Prop} {h : Nat} {w : World} {xs : List (Tr h)} {vs : List C5} (H : RepS S h w xs vs) (k : Nat) : RepS S h w (xs.take k) (vs.take k) := by
  refine ⟨by rw [List.length_take, List.length_take, H.1], fun j x c hx hc => ?_⟩
  rw [List.getElem?_take] at hx hc
  split at hx
  · rename_i hj
    rw [if_pos hj] at hc
    exact H.2 j x c hx hc
  · cases hx
theorem RepS.drop {S : Nat → Prop} {h : Nat} {w : World} {xs : List (Tr h)} {vs : List C5} (H : RepS S h w xs vs) (k : Nat) : RepS S h w (xs.drop k) (vs.drop k) := by
  refine ⟨by rw [List.length_drop, List.length_drop, H.1], fun j x c hx hc => ?_⟩
  rw [List.getElem?_drop] at hx hc
  exact H.2 _ x c hx hc
theorem RepS.single {S : Nat → Prop} {h : Nat} {w : World} {x : Tr h} {c : C5} (H : TLies S h w x c.arr) : RepS S h w [x] [c] := by
  refine ⟨rfl, fun j y d hy hd => ?_⟩
  cases j with
  | zero =>
    simp at hy hd
    subst hy hd
    exact H
  | succ j => simp at hy
theorem raw_take {w : World} {b o c kk : Nat} {vs : List C5} (h : ∀ j u, (flat5 vs)[j]? = some u → w.cell? ⟨b, o + j, none⟩ = some u) : Raw5 w (some ⟨b, o, none⟩) c (vs.take kk) :=
  ⟨(fun h => nomatch h), fun ad had => ⟨b, o, (Option.some.inj had).symm, fun j u hj => by
    rw [flat5_take, List.getElem?_take] at hj
    split at hj
    · exact h j u hj
    · cases hj⟩⟩
theorem raw_drop {w : World} {b o c kk : Nat} {vs : List C5} (h : ∀ j u, (flat5 vs)[j]? = some u → w.cell? ⟨b, o + j, none⟩ = some u) : Raw5 w (some ⟨b, o + kk * 5, none⟩) c (vs.drop kk) :=
  ⟨(fun h => nomatch h), fun ad had => ⟨b, o + kk * 5, (Option.some.inj had).symm, fun j u hj => by
    rw [flat5_drop, List.getElem?_drop] at hj
    rw [show o + kk * 5 + j = o + (kk * 5 + j) by omega]
    exact h _ u hj⟩⟩
theorem rawN {w : World} : Raw5 w none 0 [] := ⟨fun _ => ⟨rfl, rfl⟩, fun ad h => nomatch h⟩
theorem rawN2 {w : World} {A : List C5} (h : A.length = 0) : Raw5 w none 0 A := by
  rw [List.length_eq_zero_iff.1 h]
  exact rawN
/-- The attribute's cells. -/
def acT : C5 := ⟨.int .i64 3, .string ⟨#[120]⟩, .string ⟨#[]⟩, .slice none 0 0, .slice none 0 0⟩
theorem acT_one : ∀ p ∈ [acT], p.one := fun p hp => by
  rw [List.mem_singleton] at hp
  subst hp
  exact ⟨rfl, rfl, rfl, rfl, rfl⟩
theorem fmod_nat (z : Int) (n : Nat) : ∃ kk : Nat, (z.tmod ((n : Int) + 1) + (n : Int) + 1) % ((n : Int) + 1) = (kk : Int) ∧ kk ≤ n := by
  have h1 := Int.emod_nonneg (z.tmod ((n : Int) + 1) + (n : Int) + 1) (show ((n : Int) + 1) ≠ 0 by omega)
  have h2 := Int.emod_lt_of_pos (z.tmod ((n : Int) + 1) + (n : Int) + 1) (show (0 : Int) < (n : Int) + 1 by omega)
  refine ⟨((z.tmod ((n : Int) + 1) + (n : Int) + 1) % ((n : Int) + 1)).toNat, by omega, by omega⟩
theorem odd_outs {h : Nat} (ts : List (Tr (h + 1))) (k : Nat) : outs (h + 1) (ts.take k ++ [attrT h] ++ ts.drop k) = outs (h + 1) ts := by
  conv => rhs; rw [← List.take_append_drop k ts]
  simp only [outs, List.flatMap_append, List.flatMap_cons, List.flatMap_nil, attrT_out, List.append_nil]
end Go.Proofs.Ytgdbbocfiejlfaa
