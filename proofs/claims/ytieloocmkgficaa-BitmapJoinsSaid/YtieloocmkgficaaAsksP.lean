/-
  BitmapAsks: the plain law: a map and its row answer alike.
-/
import Derived.Test.YtieloocmkgficaaRef
namespace Go.Proofs.Ytieloocmkgficaa
open Go.RowKit
set_option linter.unusedVariables false
set_option linter.unusedSimpArgs false
theorem rowOf_lo (F S : B64) (k : Nat) (h0 : 1 ≤ k) (h1 : k ≤ 64) : (rowOf F S).getD k false = F.getLsbD (64 - k) := by
  have hl : k < (rowOf F S).length := by rw [show (rowOf F S).length = 129 from rowK_len _ _ _]; omega
  rw [List.getD, List.getElem?_eq_getElem hl, Option.getD_some]
  simp only [rowOf, rowK, List.getElem_map, List.getElem_range]
  rw [if_pos (by omega)]
theorem rowOf_hi (F S : B64) (k : Nat) (h0 : 65 ≤ k) (h1 : k ≤ 128) : (rowOf F S).getD k false = S.getLsbD (128 - k) := by
  have hl : k < (rowOf F S).length := by rw [show (rowOf F S).length = 129 from rowK_len _ _ _]; omega
  rw [List.getD, List.getElem?_eq_getElem hl, Option.getD_some]
  simp only [rowOf, rowK, List.getElem_map, List.getElem_range]
  rw [if_neg (by omega), if_pos (by omega)]
theorem rowOf_len (F S : B64) : (rowOf F S).length = 129 := rowK_len _ _ _
theorem getD_set (r : List Bool) (n k : Nat) (v : Bool) (h : n < r.length) : (r.set n v).getD k false = if k = n then v else r.getD k false := by
  by_cases e : k = n
  · subst e
    rw [if_pos rfl]
    simp [List.getD, List.getElem?_set, h]
  · rw [if_neg e]
    simp [List.getD, List.getElem?_set, Ne.symm e]
theorem hB_ext (X : B64) (r : List Bool) (o : Nat) (h : ∀ i, i < 64 → X.getLsbD i = r.getD (o + 64 - i) false) : (X == hB r o) = true := by
  rw [beq_iff_eq]
  apply BitVec.eq_of_getLsbD_eq
  intro i hi
  rw [hB_get r o i hi, h i hi]
theorem like_row (F S : B64) : (F == hB (rowOf F S) 0 && S == hB (rowOf F S) 64) = true := by
  rw [Bool.and_eq_true]
  refine ⟨hB_ext _ _ _ fun i hi => ?_, hB_ext _ _ _ fun i hi => ?_⟩
  · rw [rowOf_lo F S _ (by omega) (by omega)]; congr 1; omega
  · rw [rowOf_hi F S _ (by omega) (by omega)]; congr 1; omega
theorem right_row (F S : B64) : rightR (rowOf F S) = rightB F S := by
  unfold rightR rightB
  rw [rowOf_lo F S 1 (by omega) (by omega), rowOf_hi F S 65 (by omega) (by omega)]
  simp
theorem has_row (F S : B64) (n : Int) : hasR (rowOf F S) n = hasB F S n := by
  unfold hasR hasB
  cases hf : fldB n
  · rfl
  rcases fld_cases hf with ⟨h1, h2⟩ | ⟨h1, h2⟩
  · rw [if_pos h2, rowOf_lo F S _ (by omega) (by omega), show 64 - n.toNat = (64 - n).toNat by omega]
  · rw [if_neg (by omega), rowOf_hi F S _ (by omega) (by omega), show 128 - n.toNat = (128 - n).toNat by omega]
theorem tw_get (k i : Nat) (h : i < 64) : (BitVec.twoPow 64 k).getLsbD i = decide (k = i) := by
  rw [BitVec.getLsbD_twoPow]
  by_cases e : k = i
  · subst e; simp [h]
  · simp [e]
theorem zero_like (o : Nat) (ho : o ≤ 64) : (0#64 == hB zeros o) = true := by
  refine hB_ext _ _ _ fun i hi => ?_
  show _ = (List.replicate 129 false).getD _ false
  rw [List.getD, List.getElem?_replicate]
  split <;> simp
/-- A field set or struck, on both sides. -/
theorem set_like (F S X Y : B64) (n : Int) (v : Bool) (hf : fldB n = true)
    (hX : ∀ i, i < 64 → X.getLsbD i = if n ≤ 64 ∧ i = (64 - n).toNat then v else F.getLsbD i) (hY : ∀ i, i < 64 → Y.getLsbD i = if ¬ n ≤ 64 ∧ i = (128 - n).toNat then v else S.getLsbD i) :
    (X == hB ((rowOf F S).set n.toNat v) 0 && Y == hB ((rowOf F S).set n.toNat v) 64) = true := by
  obtain ⟨l0, l1⟩ := fld_bd hf
  have hl := rowOf_len F S
  rw [Bool.and_eq_true]
  refine ⟨hB_ext _ _ _ fun i hi => ?_, hB_ext _ _ _ fun i hi => ?_⟩
  · rw [hX i hi, getD_set _ _ _ _ (by omega)]
    by_cases h : n ≤ 64 ∧ i = (64 - n).toNat
    · rw [if_pos h, if_pos (by omega)]
    · rw [if_neg h, if_neg (by omega), rowOf_lo F S _ (by omega) (by omega)]
      congr 1; omega
  · rw [hY i hi, getD_set _ _ _ _ (by omega)]
    by_cases h : ¬ n ≤ 64 ∧ i = (128 - n).toNat
    · rw [if_pos h, if_pos (by omega)]
    · rw [if_neg h, if_neg (by omega), rowOf_hi F S _ (by omega) (by omega)]
      congr 1; omega
theorem with_like (F S : B64) (n : Int) : (wF F S n == hB (withR (rowOf F S) n) 0 && wS F S n == hB (withR (rowOf F S) n) 64) = true := by
  unfold wF wS withR
  rw [right_row]
  cases hc : fldB n && rightB F S
  · simp only [Bool.false_eq_true, if_false]
    rw [Bool.and_eq_true]
    exact ⟨zero_like 0 (by omega), zero_like 64 (by omega)⟩
  · simp only [if_true]
    rw [Bool.and_eq_true] at hc
    refine set_like F S _ _ n true hc.1 (fun i hi => ?_) (fun i hi => ?_)
    · unfold oF
      rw [BitVec.getLsbD_or]
      by_cases h : n ≤ 64
      · rw [if_pos h, tw_get _ _ hi]
        by_cases e : i = (64 - n).toNat
        · subst e; simp [h]
        · rw [if_neg (by omega), decide_eq_false (by omega), Bool.or_false]
      · rw [if_neg h, if_neg (by omega)]; simp
    · unfold oS
      rw [BitVec.getLsbD_or]
      by_cases h : n ≤ 64
      · rw [if_pos h, if_neg (by omega)]; simp
      · rw [if_neg h, tw_get _ _ hi]
        by_cases e : i = (128 - n).toNat
        · subst e; rw [if_pos ⟨h, rfl⟩, decide_eq_true rfl, Bool.or_true]
        · rw [if_neg (by omega), decide_eq_false (by omega), Bool.or_false]
theorem without_like (F S : B64) (n : Int) : (woF F n == hB (withoutR (rowOf F S) n) 0 && woS S n == hB (withoutR (rowOf F S) n) 64) = true := by
  unfold woF woS withoutR
  cases hc : fldB n
  · simp only [Bool.false_eq_true, if_false]
    exact like_row F S
  · simp only [if_true]
    refine set_like F S _ _ n false hc (fun i hi => ?_) (fun i hi => ?_)
    · unfold oF
      rw [BitVec.getLsbD_and, BitVec.getLsbD_not]
      by_cases h : n ≤ 64
      · rw [if_pos h, tw_get _ _ hi]
        by_cases e : i = (64 - n).toNat
        · subst e; simp [h]
        · rw [if_neg (by omega), decide_eq_false (show ¬ (64 - n).toNat = i by omega)]; simp [hi]
      · rw [if_neg h, if_neg (by omega)]; simp [hi]
    · unfold oS
      rw [BitVec.getLsbD_and, BitVec.getLsbD_not]
      by_cases h : n ≤ 64
      · rw [if_pos h, if_neg (by omega)]; simp [hi]
      · rw [if_neg h, tw_get _ _ hi]
        by_cases e : i = (128 - n).toNat
        · subst e; rw [if_pos ⟨h, rfl⟩, decide_eq_true rfl]; simp
        · rw [if_neg (by omega), decide_eq_false (show ¬ (128 - n).toNat = i by omega)]; simp [hi]
theorem withE_row (F S : B64) (n : Int) : withRE (rowOf F S) n = wE F S n := by unfold withRE wE; rw [right_row]
theorem withR_len (r : List Bool) (n : Int) (h : r.length = 129) : (withR r n).length = 129 := by
  unfold withR
  split
  · simp [h]
  · exact zeros_len
theorem withoutR_len (r : List Bool) (n : Int) (h : r.length = 129) : (withoutR r n).length = 129 := by
  unfold withoutR
  split <;> simp [h]
end Go.Proofs.Ytieloocmkgficaa
