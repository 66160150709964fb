/-
  BitmapJoins: the plain law.
-/
import Derived.Test.YtieloocmkgficaaJoinR
namespace Go.Proofs.Ytieloocmkgficaa
open Go.RowKit
set_option linter.unusedVariables false
set_option linter.unusedSimpArgs false
theorem join_like (f : Bool → Bool) (F S F' S' G GS : B64) (hF : ∀ i, i < 64 → G.getLsbD i = (F.getLsbD i && f (F'.getLsbD i) && !(i == 63))) (hS : ∀ i, i < 64 → GS.getLsbD i = (S.getLsbD i && f (S'.getLsbD i) && !(i == 63))) :
    (G == hB (joinK f (rowOf F S) (rowOf F' S') 129) 0 && GS == hB (joinK f (rowOf F S) (rowOf F' S') 129) 64) = true := by
  rw [Bool.and_eq_true]
  constructor
  · apply hB_ext
    intro i hi
    rw [hF i hi, joinK_get _ _ _ _ _ (by omega), rowOf_lo _ _ _ (by omega) (by omega), rowOf_lo _ _ _ (by omega) (by omega), show 64 - (0 + 64 - i) = i by omega]
    have : (decide (2 ≤ 0 + 64 - i ∧ 0 + 64 - i < 129 ∧ 0 + 64 - i ≠ 65)) = !(i == 63) := by
      rw [Bool.eq_iff_iff]; simp; omega
    rw [this]
    cases F.getLsbD i <;> cases f (F'.getLsbD i) <;> simp
  · apply hB_ext
    intro i hi
    rw [hS i hi, joinK_get _ _ _ _ _ (by omega), rowOf_hi _ _ _ (by omega) (by omega), rowOf_hi _ _ _ (by omega) (by omega), show 128 - (64 + 64 - i) = i by omega]
    have : (decide (2 ≤ 64 + 64 - i ∧ 64 + 64 - i < 129 ∧ 64 + 64 - i ≠ 65)) = !(i == 63) := by
      rw [Bool.eq_iff_iff]; simp; omega
    rw [this]
    cases S.getLsbD i <;> cases f (S'.getLsbD i) <;> simp
theorem and_like (F S F' S' : B64) : (pl (F &&& F') == hB (joinK id (rowOf F S) (rowOf F' S') 129) 0 && pl (S &&& S') == hB (joinK id (rowOf F S) (rowOf F' S') 129) 64) = true :=
  join_like id F S F' S' _ _ (fun i hi => by rw [pl_get, BitVec.getLsbD_and]; rfl) (fun i hi => by rw [pl_get, BitVec.getLsbD_and]; rfl)
theorem less_like (F S F' S' : B64) : (pl (F &&& ~~~F') == hB (joinK not (rowOf F S) (rowOf F' S') 129) 0 && pl (S &&& ~~~S') == hB (joinK not (rowOf F S) (rowOf F' S') 129) 64) = true :=
  join_like not F S F' S' _ _ (fun i hi => by rw [pl_get, BitVec.getLsbD_and, BitVec.getLsbD_not]; simp [hi]) (fun i hi => by rw [pl_get, BitVec.getLsbD_and, BitVec.getLsbD_not]; simp [hi])
theorem num_row (F S : B64) : numR (rowOf F S) 127 = nums F S := by
  unfold numR nums numsTo
  apply List.filter_congr
  intro x hx
  obtain ⟨i, hi, rfl⟩ := List.mem_map.1 hx
  rw [List.mem_range] at hi
  rw [← has_row]
  unfold hasR fldB
  rw [decide_eq_true (by omega), decide_eq_true (by omega)]
  rfl
theorem pcN_top (n x : Nat) : pcN (n + 1) x = pcN n x + (x.testBit n).toNat := by
  rw [pcN_add n 1 x]
  congr 1
  rw [Nat.testBit_eq_decide_div_mod_eq]
  simp only [pcN]
  have := Nat.mod_two_eq_zero_or_one (x / 2 ^ n)
  rcases this with h | h <;> rw [h] <;> rfl
theorem len_lo (F S : B64) : ∀ k, k ≤ 63 → (numsTo F S k).length + pcN (63 - k) F.toNat = pcN 63 F.toNat
  | 0, _ => by simp [numsTo]
  | k + 1, h => by
    have ih := len_lo F S k (by omega)
    rw [show 63 - k = (63 - (k + 1)) + 1 by omega, pcN_top] at ih
    rw [numsTo_succ, List.length_append]
    have e : hasB F S ((k : Int) + 2) = F.toNat.testBit (63 - (k + 1)) := by
      unfold hasB fldB
      rw [decide_eq_true (by omega), decide_eq_true (by omega), if_pos (by omega), BitVec.testBit_toNat]
      have : ((k : Int) + 2 == 65) = false := by simp; omega
      rw [this, show (64 - ((k : Int) + 2)).toNat = 63 - (k + 1) by omega]
      simp
    rw [e]
    cases hb : F.toNat.testBit (63 - (k + 1)) <;> rw [hb] at ih <;> simp at ih ⊢ <;> omega
theorem num65 : fldB (((63 : Nat) : Int) + 2) = false := by decide
theorem len_mid (F S : B64) : (numsTo F S 64).length = pcN 63 F.toNat := by
  have h := len_lo F S 63 (Nat.le_refl _)
  have h2 := congrArg List.length (numsTo_succ F S 63)
  have e : hasB F S (((63 : Nat) : Int) + 2) = false := by unfold hasB; rw [num65]; rfl
  rw [e, List.length_append] at h2
  have h3 : pcN (63 - 63) F.toNat = 0 := rfl
  have h4 : (if false = true then [(((63 : Nat) : Int) + 2)] else []).length = 0 := rfl
  rw [h3] at h
  rw [h4] at h2
  exact h2.trans h
theorem len_hi (F S : B64) (A : Nat) (hA : (numsTo F S 64).length = A) : ∀ j, j ≤ 63 → (numsTo F S (64 + j)).length + pcN (63 - j) S.toNat = A + pcN 63 S.toNat := by
  intro j
  induction j with
  | zero => intro _; rw [Nat.add_zero, Nat.sub_zero, hA]
  | succ j ih =>
    intro h
    have ih := ih (by omega)
    rw [show 63 - j = (63 - (j + 1)) + 1 by omega, pcN_top] at ih
    rw [show 64 + (j + 1) = (64 + j) + 1 by omega, numsTo_succ, List.length_append]
    have e : hasB F S (((64 + j : Nat) : Int) + 2) = S.toNat.testBit (63 - (j + 1)) := by
      unfold hasB fldB
      rw [decide_eq_true (by omega), decide_eq_true (by omega), if_neg (by omega), BitVec.testBit_toNat]
      have : (((64 + j : Nat) : Int) + 2 == 65) = false := by simp; omega
      rw [this, show (128 - (((64 + j : Nat) : Int) + 2)).toNat = 63 - (j + 1) by omega]
      simp
    rw [e]
    obtain ⟨p, hp⟩ : ∃ p, pcN (63 - (j + 1)) S.toNat = p := ⟨_, rfl⟩
    obtain ⟨q, hq⟩ : ∃ q, pcN 63 S.toNat = q := ⟨_, rfl⟩
    obtain ⟨r, hr⟩ : ∃ r, (numsTo F S (64 + j)).length = r := ⟨_, rfl⟩
    rw [hp, hq, hr] at ih
    rw [hp, hq, hr]
    cases hb : S.toNat.testBit (63 - (j + 1)) <;> rw [hb] at ih <;> simp at ih ⊢ <;> omega
theorem pc_pl (X : B64) : pcN 64 (pl X).toNat = pcN 63 X.toNat := by
  have e : (pl X).toNat = X.toNat % 2 ^ 63 := by
    apply Nat.eq_of_testBit_eq
    intro i
    rw [Nat.testBit_mod_two_pow, BitVec.testBit_toNat, pl_get, BitVec.testBit_toNat]
    by_cases h : i < 63
    · have : (i == 63) = false := by simp; omega
      simp [h, this]
    · by_cases h2 : i = 63
      · subst h2; simp
      · have : X.getLsbD i = false := BitVec.getLsbD_of_ge _ _ (by omega)
        simp [h, this]
  rw [pcN_top, e, pcN_mod, Nat.testBit_mod_two_pow]
  simp
theorem len_nums (F S : B64) : lenV F S = (nums F S).length := by
  have h := len_hi F S _ (len_mid F S) 63 (Nat.le_refl _)
  have h3 : pcN (63 - 63) S.toNat = 0 := rfl
  rw [h3] at h
  unfold lenV nums
  rw [pc_pl, pc_pl]
  exact h.symm
end Go.Proofs.Ytieloocmkgficaa
