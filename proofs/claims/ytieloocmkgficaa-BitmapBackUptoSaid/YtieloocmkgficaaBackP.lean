/-
  BitmapBack, the plain law: what Of has gathered, what is written is read as it was.
-/
import Derived.Test.YtieloocmkgficaaGoes
import Derived.Test.YtieloocmkgficaaSetsP
import Derived.Test.YtieloocmkgficaaAgain
namespace Go.Proofs.Ytieloocmkgficaa
open Go.RowKit
set_option linter.unusedVariables false
set_option linter.unusedSimpArgs false
/-! What Of has gathered. -/
theorem or_has (F S : B64) (x n : Int) (hx : fldB x = true) : hasB (F ||| oF x) (S ||| oS x) n = (hasB F S n || n == x) := by
  unfold hasB
  cases hn : fldB n
  · have : n ≠ x := fun e => by rw [e, hx] at hn; cases hn
    simp [this]
  · simp only [Bool.true_and]
    unfold oF oS
    have hx' := fld_cases hx
    have hn' := fld_cases hn
    by_cases c : n ≤ 64
    · by_cases d : x ≤ 64
      · simp only [if_pos c, if_pos d, BitVec.getLsbD_or, BitVec.getLsbD_twoPow]
        congr 1
        rw [Bool.eq_iff_iff]
        simp
        omega
      · simp only [if_pos c, if_neg d]
        have e : (n == x) = false := by simp; omega
        simp [e]
    · by_cases d : x ≤ 64
      · simp only [if_neg c, if_pos d]
        have e : (n == x) = false := by simp; omega
        simp [e]
      · simp only [if_neg c, if_neg d, BitVec.getLsbD_or, BitVec.getLsbD_twoPow]
        congr 1
        rw [Bool.eq_iff_iff]
        simp
        omega
theorem or_right (F S : B64) (x : Int) (hx : fldB x = true) : rightB (F ||| oF x) (S ||| oS x) = rightB F S := by
  unfold rightB oF oS
  have hx' := fld_cases hx
  by_cases d : x ≤ 64
  · have e : ¬ 63 = (64 - x).toNat := by omega
    have e' : ¬ (64 - x).toNat = 63 := by omega
    simp [e', if_pos d, BitVec.getLsbD_or, BitVec.getLsbD_twoPow, e]
  · have e : ¬ 63 = (128 - x).toNat := by omega
    have e' : ¬ (128 - x).toNat = 63 := by omega
    simp [e', if_neg d, BitVec.getLsbD_or, BitVec.getLsbD_twoPow, e]
theorem or_ne (S : B64) (k : Nat) (hk : k < 64) : S ||| BitVec.twoPow 64 k ≠ 0#64 := fun h => by
  have := congrArg (fun b => b.getLsbD k) h
  simp [BitVec.getLsbD_or, BitVec.getLsbD_twoPow, hk] at this
theorem or_zero_iff (S : B64) (x : Int) (hx : fldB x = true) : S ||| oS x = 0#64 ↔ S = 0#64 ∧ x ≤ 64 := by
  unfold oS
  have hx' := fld_cases hx
  by_cases d : x ≤ 64
  · simp [if_pos d, d]
  · simp only [if_neg d]
    constructor
    · intro h; exact absurd h (or_ne _ _ (by omega))
    · intro h; omega
theorem ofGo_all : ∀ (zs : List Int) (F S : B64), (∀ z, z ∈ zs → fldB z = true) → ∃ F' S', ofGo zs F S = (F', S', 0) ∧ (∀ n, hasB F' S' n = (hasB F S n || decide (n ∈ zs))) ∧ rightB F' S' = rightB F S ∧ (S' = 0#64 ↔ S = 0#64 ∧ ∀ z, z ∈ zs → z ≤ 64)
  | [], F, S, _ => ⟨F, S, rfl, fun n => by simp, rfl, by simp⟩
  | z :: zs, F, S, h => by
    have hz := h z (List.mem_cons_self ..)
    obtain ⟨F', S', h1, h2, h3, h4⟩ := ofGo_all zs (F ||| oF z) (S ||| oS z) (fun y hy => h y (List.mem_cons_of_mem _ hy))
    refine ⟨F', S', ?_, fun n => ?_, h3.trans (or_right F S z hz), ?_⟩
    · simp only [ofGo, if_pos hz]; exact h1
    · rw [h2, or_has _ _ _ _ hz, Bool.or_assoc]
      congr 1
      rw [Bool.eq_iff_iff]
      simp
    · rw [h4, or_zero_iff _ _ hz]
      simp [and_assoc]
/-! The truths beside. -/
def memR (xs : List Int) : List Bool := (List.range 129).map fun i : Nat => decide (((i : Nat) : Int) ∈ xs)
theorem memR_len (xs : List Int) : (memR xs).length = 129 := by simp [memR]
theorem memR_nil : memR [] = zeros := by
  apply List.ext_getElem
  · simp [memR, zeros]
  · intro i h1 h2
    simp only [memR, zeros, List.getElem_map, List.getElem_replicate]
    simp
theorem memR_get (xs : List Int) (i : Nat) (h : i < 129) : (memR xs).getD i false = decide ((i : Int) ∈ xs) := by
  have hl : i < (memR xs).length := by rw [memR_len]; exact h
  rw [List.getD, List.getElem?_eq_getElem hl, Option.getD_some]
  simp only [memR, List.getElem_map, List.getElem_range]
theorem memR_set (xs : List Int) (x : Int) (h0 : 0 ≤ x) (h1 : x ≤ 128) : (memR xs).set x.toNat true = memR (xs ++ [x]) := by
  apply List.ext_getElem
  · simp [memR]
  · intro i g1 g2
    rw [List.getElem_set]
    simp only [memR, List.getElem_map, List.getElem_range, List.mem_append, List.mem_singleton]
    by_cases e : x.toNat = i
    · rw [if_pos e]
      have : (i : Int) = x := by omega
      simp [this]
    · rw [if_neg e]
      have : ¬ (i : Int) = x := by omega
      simp [this]
/-! Bytes. -/
theorem size_list (b : ByteArray) : b.data.toList.length = b.size := by rw [Array.length_toList]; rfl
theorem byt_list (b : ByteArray) (i : Nat) : byt b i = ((b.data.toList.map fun x => ((x.toNat : Nat) : Int)).getD i 0) := by
  unfold byt
  split
  · rename_i h
    have h' : i < b.data.toList.length := by rw [size_list]; exact h
    simp [List.getD, List.getElem?_map, List.getElem?_eq_getElem h']
    rfl
  · rename_i h
    have h' : b.data.toList.length ≤ i := by rw [size_list]; omega
    simp [List.getD, List.getElem?_map, List.getElem?_eq_none h']
theorem byt_son (l : List Int) (hl : ∀ c, c ∈ l → 0 ≤ c ∧ c ≤ 255) (i : Nat) : byt (strOfNums l) i = l.getD i 0 := by
  rw [byt_list, strOfNums_data, List.map_map]
  have : l.map ((fun x : UInt8 => ((x.toNat : Nat) : Int)) ∘ fun n : Int => UInt8.ofNat n.toNat) = l := by
    conv => rhs; rw [← List.map_id l]
    apply List.map_congr_left
    intro c hc
    obtain ⟨h0, h1⟩ := hl c hc
    simp only [Function.comp, UInt8.toNat_ofNat', id]
    omega
  rw [this]
theorem byt_app (x y : ByteArray) (i : Nat) (h : i < x.size) : byt (x ++ y) i = byt x i := by
  rw [byt_list, byt_list, ByteArray.data_append, Array.toList_append, List.map_append, List.getD, List.getD, List.getElem?_append_left (by rw [List.length_map, size_list]; exact h)]
theorem byt_ext (x : ByteArray) (n i : Nat) (h : i < n) : byt (x.extract 0 n) i = byt x i := by
  rw [byt_list, byt_list, ByteArray.data_extract]
  simp [List.getD, List.getElem?_map, List.getElem?_take, h]
theorem vals_of_nums (f : Int) (b : ByteArray) (a : Nat) (X : Int) (h0 : 0 ≤ X) (h1 : X < 18446744073709551616) (h : ∀ i, i < manyV f → byt b (a + i) = (numsOf f X).getD i 0) :
    (∀ i, i < manyV f → 0 ≤ valV f (byt b (a + i))) ∧ hor (baseV f) 0 (valsOf f b a (manyV f)) = X := by
  by_cases hf : f = 1
  · simp only [manyV, if_pos hf, numsOf] at h ⊢
    have e0 := h 0 (by omega); have e1 := h 1 (by omega); have e2 := h 2 (by omega); have e3 := h 3 (by omega)
    have e4 := h 4 (by omega); have e5 := h 5 (by omega); have e6 := h 6 (by omega); have e7 := h 7 (by omega)
    simp only [bys, List.getD, List.getElem?_cons_zero, List.getElem?_cons_succ, Option.getD_some, Nat.add_zero] at e0 e1 e2 e3 e4 e5 e6 e7
    refine ⟨fun i hi => by simp only [valV, if_pos hf]; exact (byt_rng b _).1, ?_⟩
    simp only [valsOf, valV, baseV, if_pos hf, hor, List.foldl_cons, List.foldl_nil, Nat.add_assoc, Nat.reduceAdd]
    rw [e0, e1, e2, e3, e4, e5, e6, e7]
    omega
  · simp only [manyV, if_neg hf, numsOf] at h ⊢
    have q : ∀ i, i < 16 → ∃ v : Int, 0 ≤ v ∧ v < 16 ∧ (chs f (bys X)).getD i 0 = sgn f v ∧ v = (if i % 2 = 0 then (bys X).getD (i / 2) 0 / 16 else (bys X).getD (i / 2) 0 % 16) := by
      intro i hi
      have r := bys_rng X
      have : i = 0 ∨ i = 1 ∨ i = 2 ∨ i = 3 ∨ i = 4 ∨ i = 5 ∨ i = 6 ∨ i = 7 ∨ i = 8 ∨ i = 9 ∨ i = 10 ∨ i = 11 ∨ i = 12 ∨ i = 13 ∨ i = 14 ∨ i = 15 := by omega
      rcases this with rfl | rfl | rfl | rfl | rfl | rfl | rfl | rfl | rfl | rfl | rfl | rfl | rfl | rfl | rfl | rfl
      all_goals exact ⟨_, by simp [bys]; omega, by simp [bys]; omega, by simp [bys, chs], rfl⟩
    have w : ∀ i, i < 16 → worV f (byt b (a + i)) = (if i % 2 = 0 then (bys X).getD (i / 2) 0 / 16 else (bys X).getD (i / 2) 0 % 16) := by
      intro i hi
      obtain ⟨v, v0, v1, e, ev⟩ := q i hi
      rw [h i hi, e, sgn_wor f v v0 v1, ev]
    refine ⟨fun i hi => ?_, ?_⟩
    · simp only [valV, if_neg hf]
      obtain ⟨v, v0, v1, e, ev⟩ := q i hi
      rw [h i hi, e, sgn_wor f v v0 v1]; exact v0
    · have w0 := w 0 (by omega); have w1 := w 1 (by omega); have w2 := w 2 (by omega); have w3 := w 3 (by omega)
      have w4 := w 4 (by omega); have w5 := w 5 (by omega); have w6 := w 6 (by omega); have w7 := w 7 (by omega)
      have w8 := w 8 (by omega); have w9 := w 9 (by omega); have wa := w 10 (by omega); have wb := w 11 (by omega)
      have wc := w 12 (by omega); have wd := w 13 (by omega); have we := w 14 (by omega); have wf := w 15 (by omega)
      clear w q h
      simp only [bys, List.getD, List.getElem?_cons_zero, List.getElem?_cons_succ, Option.getD_some, Nat.add_zero, Nat.reduceMod, Nat.reduceDiv, if_true, Nat.one_ne_zero, if_false] at w0 w1 w2 w3 w4 w5 w6 w7 w8 w9 wa wb wc wd we wf
      simp only [valsOf, valV, baseV, if_neg hf, hor, List.foldl_cons, List.foldl_nil, Nat.add_assoc, Nat.reduceAdd]
      rw [w0, w1, w2, w3, w4, w5, w6, w7, w8, w9, wa, wb, wc, wd, we, wf]
      omega
end Go.Proofs.Ytieloocmkgficaa
