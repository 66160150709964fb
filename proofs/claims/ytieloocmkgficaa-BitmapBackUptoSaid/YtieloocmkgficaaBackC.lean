/-
  BitmapBack, the plain law: what is written is read as it was, whatever stands behind it; a byte less is too short.
-/
import Derived.Test.YtieloocmkgficaaBackP
namespace Go.Proofs.Ytieloocmkgficaa
open Go.RowKit
set_option linter.unusedVariables false
set_option linter.unusedSimpArgs false
theorem many_len (f X : Int) : (numsOf f X).length = manyV f := numsOf_len f X
theorem nums_val (f X : Int) (h0 : 0 ≤ X) (h1 : X < 18446744073709551616) (i : Nat) (hi : i < manyV f) : 0 ≤ valV f ((numsOf f X).getD i 0) := by
  have h := (vals_of_nums f (strOfNums (numsOf f X)) 0 X h0 h1 (fun i hi => by rw [Nat.zero_add, byt_son _ (nums_rng f X)])).1 i hi
  rwa [Nat.zero_add, byt_son _ (nums_rng f X)] at h
theorem read_at (f : Int) (b : ByteArray) (a : Nat) (X : Int) (h0 : 0 ≤ X) (h1 : X < 18446744073709551616) (hs : a + manyV f ≤ b.size) (h : ∀ i, i < manyV f → byt b (a + i) = (numsOf f X).getD i 0) :
    readV f b a = (X, 0, a + manyV f) := by
  obtain ⟨h2, h3⟩ := vals_of_nums f b a X h0 h1 h
  unfold readV
  rw [rd_yes f b (manyV f) 0 a hs h2, h3]
theorem read_short (f : Int) (b : ByteArray) (a : Nat) (X : Int) (h0 : 0 ≤ X) (h1 : X < 18446744073709551616) (ha : a ≤ b.size) (hs : b.size < a + manyV f) (h : ∀ i, a + i < b.size → byt b (a + i) = (numsOf f X).getD i 0) :
    readV f b a = (0, 10, b.size) := by
  unfold readV
  exact rd_short f b (manyV f) 0 a ha hs (fun i hi => by rw [h i hi]; exact nums_val f X h0 h1 i (by omega))
def lenOf (enc : Int) (S : B64) : Nat := if S = 0#64 then manyV (formV enc) else 2 * manyV (formV enc)
theorem many_pos (f : Int) : 8 ≤ manyV f := by unfold manyV; split <;> omega
theorem getD_app (l m : List Int) (i : Nat) : (l ++ m).getD i 0 = if i < l.length then l.getD i 0 else m.getD (i - l.length) 0 := by
  rw [List.getD, List.getD, List.getD]
  split
  · rename_i h; rw [List.getElem?_append_left h]
  · rename_i h; rw [List.getElem?_append_right (by omega)]
theorem rng_app {l m : List Int} (hl : ∀ c, c ∈ l → 0 ≤ c ∧ c ≤ 255) (hm : ∀ c, c ∈ m → 0 ≤ c ∧ c ≤ 255) : ∀ c, c ∈ l ++ m → 0 ≤ c ∧ c ≤ 255 := fun c hc => (List.mem_append.1 hc).elim (hl c) (hm c)
theorem codec (enc : Int) (F S : B64) (hf : formV enc ≠ 0) (hr : rightB F S = true) : ∃ s : ByteArray, encodeV enc (iv F) (iv S) = (s, 0) ∧ s.size = lenOf enc S ∧
    (∀ t : ByteArray, decodeV enc (s ++ t) = (iv F, iv S, 0, s.size)) ∧ decodeV enc (s.extract 0 (s.size - 1)) = (0, 0, 10, s.size - 1) := by
  obtain ⟨hF, hS⟩ := (right_iff F S).1 hr
  have gF := iv_rng F
  have gS := iv_rng S
  have mp := many_pos (formV enc)
  obtain ⟨f, ef⟩ : ∃ f, formV enc = f := ⟨_, rfl⟩
  unfold lenOf encodeV
  rw [if_neg (by omega)]
  by_cases h0 : S = 0#64
  · have hS0 : iv S = 0 := by rw [h0]; rfl
    rw [if_pos hS0, if_pos h0]
    have hsz : (writtenV (formV enc) (iv F)).size = manyV (formV enc) := by unfold writtenV; rw [son_size, many_len]
    refine ⟨_, rfl, hsz, fun t => ?_, ?_⟩
    · have hR := read_at (formV enc) (writtenV (formV enc) (iv F) ++ t) 0 (iv F) gF.1 gF.2 (by rw [ByteArray.size_append, hsz]; omega) (fun i hi => by
        rw [Nat.zero_add, byt_app _ _ _ (by rw [hsz]; exact hi)]
        exact byt_son _ (nums_rng _ _) i)
      unfold decodeV
      rw [if_neg hf]
      simp only [hR, ne_eq, not_true_eq_false, if_false, if_pos hF]
      rw [hS0, hsz, Nat.zero_add]
    · have hse : ((writtenV (formV enc) (iv F)).extract 0 ((writtenV (formV enc) (iv F)).size - 1)).size = (writtenV (formV enc) (iv F)).size - 1 := by
        rw [ByteArray.size_extract]; omega
      have hR := read_short (formV enc) ((writtenV (formV enc) (iv F)).extract 0 ((writtenV (formV enc) (iv F)).size - 1)) 0 (iv F) gF.1 gF.2 (Nat.zero_le _) (by rw [hse, hsz]; omega) (fun i hi => by
        rw [Nat.zero_add] at hi ⊢
        rw [byt_ext _ _ _ (by rw [hse] at hi; exact hi)]
        exact byt_son _ (nums_rng _ _) i)
      unfold decodeV
      rw [if_neg hf]
      simp only [hR]
      rw [if_pos (by decide), hse]
  · have hS0 : iv S ≠ 0 := fun h => h0 (iv_inj (h.trans rfl))
    rw [if_neg hS0, if_neg h0]
    have hL : writtenV (formV enc) (iv F + 9223372036854775808) ++ writtenV (formV enc) (iv S) = strOfNums (numsOf (formV enc) (iv F + 9223372036854775808) ++ numsOf (formV enc) (iv S)) := by
      unfold writtenV; rw [son_append]
    rw [hL]
    have hsz : (strOfNums (numsOf (formV enc) (iv F + 9223372036854775808) ++ numsOf (formV enc) (iv S))).size = 2 * manyV (formV enc) := by
      rw [son_size, List.length_append, many_len, many_len]; omega
    have hby : ∀ i, byt (strOfNums (numsOf (formV enc) (iv F + 9223372036854775808) ++ numsOf (formV enc) (iv S))) i = if i < manyV (formV enc) then (numsOf (formV enc) (iv F + 9223372036854775808)).getD i 0 else (numsOf (formV enc) (iv S)).getD (i - manyV (formV enc)) 0 := fun i => by
      rw [byt_son _ (rng_app (nums_rng _ _) (nums_rng _ _)), getD_app, many_len]
    clear hL
    generalize strOfNums (numsOf (formV enc) (iv F + 9223372036854775808) ++ numsOf (formV enc) (iv S)) = s at *
    refine ⟨s, rfl, hsz, fun t => ?_, ?_⟩
    · have hR := read_at (formV enc) (s ++ t) 0 (iv F + 9223372036854775808) (by omega) (by omega) (by rw [ByteArray.size_append, hsz]; omega) (fun i hi => by
        rw [Nat.zero_add, byt_app _ _ _ (by rw [hsz]; omega), hby, if_pos hi])
      have hR2 := read_at (formV enc) (s ++ t) (manyV (formV enc)) (iv S) gS.1 gS.2 (by rw [ByteArray.size_append, hsz]; omega) (fun i hi => by
        rw [byt_app _ _ _ (by rw [hsz]; omega), hby, if_neg (by omega), Nat.add_sub_cancel_left])
      rw [Nat.zero_add] at hR
      unfold decodeV
      rw [if_neg hf]
      simp only [hR, ne_eq, not_true_eq_false, if_false, hR2]
      rw [if_neg (by omega), if_neg (by omega), Int.add_sub_cancel, hsz, Nat.two_mul]
    · have hse : (s.extract 0 (s.size - 1)).size = s.size - 1 := by
        rw [ByteArray.size_extract]; omega
      have hR := read_at (formV enc) (s.extract 0 (s.size - 1)) 0 (iv F + 9223372036854775808) (by omega) (by omega) (by rw [hse, hsz]; omega) (fun i hi => by
        rw [Nat.zero_add, byt_ext _ _ _ (by rw [hsz]; omega), hby, if_pos hi])
      have hR2 := read_short (formV enc) (s.extract 0 (s.size - 1)) (manyV (formV enc)) (iv S) gS.1 gS.2 (by rw [hse, hsz]; omega) (by rw [hse, hsz]; omega) (fun i hi => by
        rw [byt_ext _ _ _ (by rw [hse] at hi; exact hi), hby, if_neg (by omega), Nat.add_sub_cancel_left])
      rw [Nat.zero_add] at hR
      unfold decodeV
      rw [if_neg hf]
      simp only [hR, ne_eq, not_true_eq_false, if_false, hR2]
      rw [if_neg (by omega), if_pos (by decide), hse]
end Go.Proofs.Ytieloocmkgficaa
