/-
  There and back, in plain Lean: what is read is what was written, and what is written is what was read.
-/
import Derived.Test.YtieloocmkgficaaCode
namespace Go.Proofs.Ytieloocmkgficaa
open Go.RowKit
set_option linter.unusedVariables false
set_option linter.unusedSimpArgs false
def hor (B : Int) (x : Int) (vs : List Int) : Int := vs.foldl (fun x v => x * B + v) x
def valsOf (f : Int) (b : ByteArray) (a : Nat) : Nat → List Int
  | 0 => []
  | n + 1 => valV f (byt b a) :: valsOf f b (a + 1) n
theorem rd_ok (f : Int) (b : ByteArray) : ∀ (n : Nat) (x : Int) (a : Nat) (X : Int) (e : Nat), rd f b n x a = (X, 0, e) → e = a + n ∧ (a ≤ b.size → a + n ≤ b.size) ∧ X = hor (baseV f) x (valsOf f b a n) ∧ ∀ i, i < n → 0 ≤ valV f (byt b (a + i))
  | 0, x, a, X, e, h => by
    unfold rd at h
    injection h with h1 h2
    injection h2 with h2 h3
    exact ⟨h3.symm, fun h => h, h1.symm, fun i hi => absurd hi (Nat.not_lt_zero _)⟩
  | n + 1, x, a, X, e, h => by
    unfold rd at h
    split at h
    · injection h with h1 h2; injection h2 with h2 h3; omega
    split at h
    · injection h with h1 h2; injection h2 with h2 h3; omega
    rename_i ha hv
    obtain ⟨h1, h2, h3, h4⟩ := rd_ok f b n _ _ X e h
    refine ⟨by omega, fun hs => by have := h2 (by omega); omega, h3, ?_⟩
    intro i hi
    match i with
    | 0 => simpa using Int.not_lt.1 hv
    | j + 1 => have := h4 j (by omega); rwa [show a + (j + 1) = a + 1 + j by omega]
theorem rd_yes (f : Int) (b : ByteArray) : ∀ (n : Nat) (x : Int) (a : Nat), a + n ≤ b.size → (∀ i, i < n → 0 ≤ valV f (byt b (a + i))) → rd f b n x a = (hor (baseV f) x (valsOf f b a n), 0, a + n)
  | 0, x, a, _, _ => rfl
  | n + 1, x, a, hs, hv => by
    unfold rd
    rw [if_neg (by omega), if_neg (by have := hv 0 (by omega); simp at this; omega), rd_yes f b n _ (a + 1) (by omega) (fun i hi => by have := hv (i + 1) (by omega); rwa [show a + 1 + i = a + (i + 1) by omega])]
    simp only [valsOf, hor, List.foldl_cons, Prod.mk.injEq, true_and]
    omega
theorem rd_short (f : Int) (b : ByteArray) : ∀ (n : Nat) (x : Int) (a : Nat), a ≤ b.size → b.size < a + n → (∀ i, a + i < b.size → 0 ≤ valV f (byt b (a + i))) → rd f b n x a = (0, 10, b.size)
  | 0, x, a, h1, h2, _ => by omega
  | n + 1, x, a, h1, h2, hv => by
    unfold rd
    by_cases he : a = b.size
    · rw [if_pos he, he]
    · rw [if_neg he, if_neg (by have := hv 0 (by omega); simp at this; omega)]
      exact rd_short f b n _ (a + 1) (by omega) (by omega) (fun i hi => by have := hv (i + 1) (by omega); rwa [show a + 1 + i = a + (i + 1) by omega])
theorem rd_end (f : Int) (b : ByteArray) : ∀ (n : Nat) (x : Int) (a : Nat), a ≤ b.size → a ≤ (rd f b n x a).2.2 ∧ (rd f b n x a).2.2 ≤ b.size ∨ ∃ X, rd f b n x a = (X, 0, a + n) ∧ a + n ≤ b.size
  | 0, x, a, h => .inr ⟨x, rfl, h⟩
  | n + 1, x, a, h => by
    unfold rd
    split
    · left; exact ⟨Nat.le_refl _, h⟩
    split
    · left; exact ⟨Nat.le_refl _, h⟩
    rename_i ha hv
    rcases rd_end f b n (x * baseV f + valV f (byt b a)) (a + 1) (by omega) with ⟨h1, h2⟩ | ⟨X, h1, h2⟩
    · left; exact ⟨by omega, h2⟩
    · right; exact ⟨X, by rw [h1, show a + 1 + n = a + (n + 1) by omega], by omega⟩
theorem byt_rng (b : ByteArray) (i : Nat) : 0 ≤ byt b i ∧ byt b i < 256 := by
  unfold byt
  split
  · rename_i h
    have := (b[i]'h).toNat_lt
    omega
  · omega
/-- What was read as a half is, written, the bytes that were read. -/
theorem nums_of_vals (f : Int) (b : ByteArray) (a : Nat) (h : ∀ i, i < manyV f → 0 ≤ valV f (byt b (a + i))) :
    0 ≤ hor (baseV f) 0 (valsOf f b a (manyV f)) ∧ hor (baseV f) 0 (valsOf f b a (manyV f)) < 18446744073709551616 ∧
    numsOf f (hor (baseV f) 0 (valsOf f b a (manyV f))) = (List.range (manyV f)).map (fun i => byt b (a + i)) := by
  unfold manyV baseV numsOf valV at *
  by_cases hf : f = 1
  · simp only [if_pos hf] at *
    have r0 := byt_rng b (a + 0); have r1 := byt_rng b (a + 1); have r2 := byt_rng b (a + 2); have r3 := byt_rng b (a + 3)
    have r4 := byt_rng b (a + 4); have r5 := byt_rng b (a + 5); have r6 := byt_rng b (a + 6); have r7 := byt_rng b (a + 7)
    simp only [valsOf, valV, if_pos hf, hor, List.foldl_cons, List.foldl_nil, Nat.add_assoc, Nat.reduceAdd, Nat.add_zero] at *
    refine ⟨by omega, by omega, ?_⟩
    simp only [bys, List.range, List.range.loop, List.map_cons, List.map_nil, List.cons.injEq, and_true, Nat.add_zero]
    refine ⟨?_, ?_, ?_, ?_, ?_, ?_, ?_, ?_⟩ <;> omega
  · simp only [if_neg hf] at *
    have q : ∀ i, i < 16 → ∃ v, worV f (byt b (a + i)) = v ∧ 0 ≤ v ∧ v < 16 ∧ sgn f v = byt b (a + i) := fun i hi => ⟨_, rfl, h i hi, (wor_rng f _).2, wor_sgn f _ (h i hi)⟩
    obtain ⟨v0, e0, l0, u0, s0⟩ := q 0 (by omega); obtain ⟨v1, e1, l1, u1, s1⟩ := q 1 (by omega); obtain ⟨v2, e2, l2, u2, s2⟩ := q 2 (by omega); obtain ⟨v3, e3, l3, u3, s3⟩ := q 3 (by omega)
    obtain ⟨v4, e4, l4, u4, s4⟩ := q 4 (by omega); obtain ⟨v5, e5, l5, u5, s5⟩ := q 5 (by omega); obtain ⟨v6, e6, l6, u6, s6⟩ := q 6 (by omega); obtain ⟨v7, e7, l7, u7, s7⟩ := q 7 (by omega)
    obtain ⟨v8, e8, l8, u8, s8⟩ := q 8 (by omega); obtain ⟨v9, e9, l9, u9, s9⟩ := q 9 (by omega); obtain ⟨va, ea, la, ua, sa⟩ := q 10 (by omega); obtain ⟨vb, eb, lb, ub, sb⟩ := q 11 (by omega)
    obtain ⟨vc, ec, lc, uc, sc⟩ := q 12 (by omega); obtain ⟨vd, ed, ld, ud, sd⟩ := q 13 (by omega); obtain ⟨ve, ee, le, ue, se⟩ := q 14 (by omega); obtain ⟨vf, ef, lf, uf, sf⟩ := q 15 (by omega)
    clear q h
    simp only [valsOf, valV, if_neg hf, hor, List.foldl_cons, List.foldl_nil, Nat.add_assoc, Nat.reduceAdd, Nat.add_zero] at *
    simp only [e0, e1, e2, e3, e4, e5, e6, e7, e8, e9, ea, eb, ec, ed, ee, ef]
    refine ⟨by omega, by omega, ?_⟩
    simp only [bys, chs, List.range, List.range.loop, List.map_cons, List.map_nil, List.cons.injEq, and_true, Nat.add_zero]
    rw [← s0, ← s1, ← s2, ← s3, ← s4, ← s5, ← s6, ← s7, ← s8, ← s9, ← sa, ← sb, ← sc, ← sd, ← se, ← sf]
    clear s0 s1 s2 s3 s4 s5 s6 s7 s8 s9 sa sb sc sd se sf e0 e1 e2 e3 e4 e5 e6 e7 e8 e9 ea eb ec ed ee ef
    refine ⟨?_, ?_, ?_, ?_, ?_, ?_, ?_, ?_, ?_, ?_, ?_, ?_, ?_, ?_, ?_, ?_⟩ <;> congr 1 <;> omega
end Go.Proofs.Ytieloocmkgficaa
