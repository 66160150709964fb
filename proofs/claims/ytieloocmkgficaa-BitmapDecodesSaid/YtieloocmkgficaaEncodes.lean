/-
  BitmapEncodes: the plain law and the walk.
-/
import Derived.Test.YtieloocmkgficaaEncD
namespace Go.Proofs.Ytieloocmkgficaa
open Go.RowKit
set_option linter.unusedVariables false
set_option linter.unusedSimpArgs false
theorem hN_split (r : List Bool) (o a : Nat) : ∀ b, hN r o (a + b) = 2 ^ b * hN r o a + hN r (o + a) b
  | 0 => by simp [hN]
  | b + 1 => by
    have h := hN_split r o a b
    rw [show a + (b + 1) = (a + b) + 1 by omega]
    simp only [hN]
    rw [h, Nat.pow_succ, show o + (a + b) + 1 = o + a + b + 1 by omega, Nat.mul_add, ← Nat.mul_assoc, Nat.mul_comm 2 (2 ^ b)]
    omega
theorem nvs (n : Nat) : nv n = (n : Int) := rfl
theorem half_bys (r : List Bool) (o : Nat) : halfL 1 r o 8 8 = bys (nv (hN r o 64)) := by
  have s0 := hN_split r o 56 8; have s1 := hN_split r o 48 8; have s2 := hN_split r o 40 8; have s3 := hN_split r o 32 8
  have s4 := hN_split r o 24 8; have s5 := hN_split r o 16 8; have s6 := hN_split r o 8 8; have s7 := hN_split r o 0 8
  have b0 := hN_lt r (o + 56) 8; have b1 := hN_lt r (o + 48) 8; have b2 := hN_lt r (o + 40) 8; have b3 := hN_lt r (o + 32) 8
  have b4 := hN_lt r (o + 24) 8; have b5 := hN_lt r (o + 16) 8; have b6 := hN_lt r (o + 8) 8; have b7 := hN_lt r (o + 0) 8
  have z : hN r o 0 = 0 := rfl
  simp only [halfL, chr, if_true, List.nil_append, List.cons_append, bys, Nat.mul_zero, Nat.reduceMul, nvs, List.cons.injEq, and_true]
  simp only [Nat.reduceAdd] at s0 s1 s2 s3 s4 s5 s6 s7
  refine ⟨?_, ?_, ?_, ?_, ?_, ?_, ?_, ?_⟩ <;> omega
theorem half_chs (f : Int) (hf : f ≠ 1) (r : List Bool) (o : Nat) : halfL f r o 4 16 = chs f (bys (nv (hN r o 64))) := by
  have s0 := hN_split r o 60 4; have s1 := hN_split r o 56 4; have s2 := hN_split r o 52 4; have s3 := hN_split r o 48 4
  have s4 := hN_split r o 44 4; have s5 := hN_split r o 40 4; have s6 := hN_split r o 36 4; have s7 := hN_split r o 32 4
  have s8 := hN_split r o 28 4; have s9 := hN_split r o 24 4; have sa := hN_split r o 20 4; have sb := hN_split r o 16 4
  have sc := hN_split r o 12 4; have sd := hN_split r o 8 4; have se := hN_split r o 4 4; have sf := hN_split r o 0 4
  have b0 := hN_lt r (o + 60) 4; have b1 := hN_lt r (o + 56) 4; have b2 := hN_lt r (o + 52) 4; have b3 := hN_lt r (o + 48) 4
  have b4 := hN_lt r (o + 44) 4; have b5 := hN_lt r (o + 40) 4; have b6 := hN_lt r (o + 36) 4; have b7 := hN_lt r (o + 32) 4
  have b8 := hN_lt r (o + 28) 4; have b9 := hN_lt r (o + 24) 4; have ba := hN_lt r (o + 20) 4; have bb := hN_lt r (o + 16) 4
  have bc := hN_lt r (o + 12) 4; have bd := hN_lt r (o + 8) 4; have be := hN_lt r (o + 4) 4; have bf := hN_lt r (o + 0) 4
  have z : hN r o 0 = 0 := rfl
  simp only [halfL, chr, if_neg hf, List.nil_append, List.cons_append, bys, chs, Nat.mul_zero, Nat.reduceMul, nvs, List.cons.injEq, and_true]
  simp only [Nat.reduceAdd] at s0 s1 s2 s3 s4 s5 s6 s7 s8 s9 sa sb sc sd se sf
  refine ⟨?_, ?_, ?_, ?_, ?_, ?_, ?_, ?_, ?_, ?_, ?_, ?_, ?_, ?_, ?_, ?_⟩ <;> congr 1 <;> omega
theorem half_written (enc : Int) (r : List Bool) (o : Nat) (h : formV enc ≠ 0) : halfE enc r o = writtenV (formV enc) (iv (hB r o)) := by
  rw [iv_hB]
  unfold halfE writtenV numsOf halfS
  by_cases h5 : enc = 5
  · subst h5
    rw [if_pos rfl, if_pos (by decide), half_bys]
  · rw [if_neg h5]
    have hf : formV enc = fOf enc := by
      unfold formV at h ⊢
      unfold fOf
      rw [if_neg h5] at h ⊢
      by_cases h1 : enc = 1
      · rw [if_pos h1, if_pos h1]
      · rw [if_neg h1] at h ⊢
        rw [if_neg h1]
        by_cases h4 : enc = 4
        · rw [if_pos h4]
        · rw [if_neg h4] at h; exact absurd rfl h
    have f1 : fOf enc ≠ 1 := by unfold fOf; split <;> decide
    rw [hf, if_neg f1, half_chs _ f1]
theorem anyR_iff (r : List Bool) : ∀ m, anyR r m = true ↔ ∃ i, i < m ∧ r.getD (66 + i) false = true
  | 0 => by simp [anyR]
  | m + 1 => by
    simp only [anyR, Bool.or_eq_true, anyR_iff r m]
    constructor
    · rintro (⟨i, h, k⟩ | h)
      · exact ⟨i, by omega, k⟩
      · exact ⟨m, by omega, h⟩
    · rintro ⟨i, h, k⟩
      by_cases e : i = m
      · subst e; exact .inr k
      · exact .inl ⟨i, by omega, k⟩
theorem any_row (F S : B64) (h : S.getLsbD 63 = false) : anyR (rowOf F S) 63 = true ↔ S ≠ 0#64 := by
  rw [anyR_iff]
  constructor
  · rintro ⟨i, h1, h2⟩ rfl
    rw [rowOf_hi _ _ _ (by omega) (by omega)] at h2
    simp at h2
  · intro hne
    refine Classical.byContradiction fun hno => hne ?_
    apply BitVec.eq_of_getLsbD_eq
    intro i hi
    rw [BitVec.getLsbD_zero]
    by_cases e : i = 63
    · subst e; exact h
    · cases hb : S.getLsbD i
      · rfl
      · exact absurd ⟨62 - i, by omega, by rw [rowOf_hi _ _ _ (by omega) (by omega), show 128 - (66 + (62 - i)) = i by omega]; exact hb⟩ hno
theorem set1 (F S : B64) (v : Bool) (h : F.getLsbD 63 = false) : hB ((rowOf F S).set 1 v) 0 = (if v = true then F ||| topB else F) ∧ hB ((rowOf F S).set 1 v) 64 = S := by
  have hl := rowOf_len F S
  constructor
  · apply BitVec.eq_of_getLsbD_eq
    intro i hi
    rw [hB_get _ _ _ hi, getD_set _ _ _ _ (by omega)]
    by_cases e : i = 63
    · subst e
      rw [if_pos (by omega)]
      cases v
      · rw [if_neg (by decide)]; exact h.symm
      · simp [topB, BitVec.getLsbD_or, BitVec.getLsbD_twoPow]
    · rw [if_neg (by omega), rowOf_lo _ _ _ (by omega) (by omega), show 64 - (0 + 64 - i) = i by omega]
      cases v
      · simp
      · have e' : ¬ 63 = i := fun x => e x.symm
        simp [topB, BitVec.getLsbD_or, BitVec.getLsbD_twoPow, e']
  · apply BitVec.eq_of_getLsbD_eq
    intro i hi
    rw [hB_get _ _ _ hi, getD_set _ _ _ _ (by omega), if_neg (by omega), rowOf_hi _ _ _ (by omega) (by omega)]
    congr 1; omega
theorem enc_same (enc : Int) (F S : B64) : encRV enc (rowOf F S) = encodeV enc (iv F) (iv S) := by
  have hri := right_iff F S
  unfold encRV encodeV
  rw [right_row]
  by_cases hf : formV enc = 0
  · have hk : knownB enc = false := by unfold knownB; rw [hf]; rfl
    rw [hk]
    simp only [Bool.false_and, Bool.false_eq_true, if_false]
    rw [if_pos (.inl hf)]
  have hk : knownB enc = true := by unfold knownB; rw [bne, beq_eq_false_iff_ne.2 hf]; rfl
  rw [hk]
  cases hr : rightB F S
  · rw [hr] at hri
    simp only [Bool.false_eq_true, false_iff] at hri
    simp only [Bool.and_false, Bool.false_eq_true, if_false]
    rw [if_pos (by omega)]
  · obtain ⟨a1, a2⟩ := hri.1 hr
    have hr' := hr
    unfold rightB at hr'
    simp only [Bool.not_eq_true', Bool.or_eq_false_iff] at hr'
    obtain ⟨f63, s63⟩ := hr'
    simp only [Bool.and_self, if_true]
    rw [if_neg (show ¬(formV enc = 0 ∨ 9223372036854775808 ≤ iv F ∨ 9223372036854775808 ≤ iv S) by omega)]
    have ha := any_row F S s63
    by_cases hs : iv S = 0
    · have hS : S = 0#64 := iv_inj (by rw [hs]; rfl)
      have hm : anyR (rowOf F S) 63 = false := by
        cases h : anyR (rowOf F S) 63
        · rfl
        · exact absurd hS (ha.1 h)
      rw [hm, if_pos hs]
      obtain ⟨q1, q2⟩ := set1 F S false f63
      simp only [Bool.false_eq_true, if_false] at q1 ⊢
      rw [half_written enc _ _ hf, q1]
    · have hm : anyR (rowOf F S) 63 = true := ha.2 (fun h => hs (by rw [h]; rfl))
      rw [hm, if_neg hs]
      obtain ⟨q1, q2⟩ := set1 F S true f63
      simp only [if_true] at q1 ⊢
      have ho : iv (F ||| topB) = iv F + 9223372036854775808 := by
        unfold iv at a1 ⊢
        rw [or_nat _ (by omega)]; omega
      rw [half_written enc _ _ hf, half_written enc _ _ hf, q1, q2, ho]
set_option maxHeartbeats 1000000 in
theorem encodes_walk (enc : Int) (h1 : -9223372036854775808 ≤ enc) (h2 : enc ≤ 9223372036854775807) (F S : B64) {w : World} :
    Calls Try.prog 5 #[.int .i64 enc, .agg #[.int .u64 (iv F), .int .u64 (iv S)]] w fun e w' => e = .returned (.bool true) ∧ Below w.heap.size w w' := by
  have QE := Lib.hid fun w => encode_any enc F S w
  have QR := Lib.hid fun w => row_any F S w
  have QX := Lib.hid fun w => renc_any enc (rowOf F S) (rowOf_len F S) w
  rw [enc_same] at QX
  obtain ⟨⟨s, e⟩, hse⟩ : ∃ r, encodeV enc (iv F) (iv S) = r := ⟨_, rfl⟩
  rw [hse] at QE QX
  simp only at QE QX
  generalize rowOf F S = r at *
  clear hse h1 h2
  go_enter Try.func5, Try.ntmps5
  go_wp2_with (first
    | (go_at_call 11; refine (examples_ok _).mono ?_; rintro v w1 ⟨rfl, hb1⟩; have hX := (Blk.new w 24 #[.int .u64 (iv F), .int .u64 (iv S)]).below hb1 (by simp); have i1 := ((Below.refl _ w).alloc (Nat.le_refl _) (.cells #[.int .u64 (iv F), .int .u64 (iv S)] 24)).trans (hb1.mono (by simp)); have x0 := hX.cell 0; have x1 := hX.cell 1; simp at x0 x1; have HX := Lib.hid hX; clear hX hb1)
    | (go_at_call 25; refine (QE.out _).mono ?_; rintro v w2 ⟨rfl, hb2⟩; have hX := HX.out.below hb2 HX.out.lt; have i2 := i1.trans (hb2.mono i1.size); have y0 := hX.cell 0; have y1 := hX.cell 1; simp at y0 y1; clear hX hb2)
    | (go_at_call 27; refine (QR.out _).mono ?_; rintro v w3 ⟨rfl, hb3⟩; have i3 := i2.trans (hb3.mono i2.size); clear hb3)
    | (go_at_call 26; refine (QX.out _).mono ?_; rintro v w4 ⟨rfl, hb4⟩; have i4 := i3.trans (hb4.mono i3.size); clear hb4))
  go_ret
  exact ⟨rfl, i4⟩
end Go.Proofs.Ytieloocmkgficaa
