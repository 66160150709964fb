/-
  BitmapDecodes: the plain law and the walk.
-/
import Derived.Test.YtieloocmkgficaaDecD
import Derived.Test.YtieloocmkgficaaEncodes
namespace Go.Proofs.Ytieloocmkgficaa
open Go.RowKit
set_option linter.unusedVariables false
set_option linter.unusedSimpArgs false
theorem fE_form (enc : Int) (h : formV enc ≠ 0) : formV enc = fE enc := by
  unfold formV at h ⊢
  unfold fE fOf
  by_cases h5 : enc = 5
  · rw [if_pos h5, if_pos h5]
  · rw [if_neg h5] at h ⊢
    rw [if_neg h5]
    by_cases h1 : enc = 1
    · rw [if_pos h1, if_pos h1]
    · rw [if_neg h1] at h ⊢
      rw [if_neg h1]
      by_cases h4 : enc = 4
      · rw [if_pos h4]
      · rw [if_neg h4] at h; exact absurd rfl h
theorem fill_get (r : List Bool) (o m x i : Nat) (h : i < 129) : (fill r o m x).getD i false = if o + 1 ≤ i ∧ i ≤ o + m then x.testBit (o + m - i) else r.getD i false := by
  have hl : i < (fill r o m x).length := by rw [fill_len]; exact h
  rw [List.getD, List.getElem?_eq_getElem hl, Option.getD_some]
  simp only [fill, List.getElem_map, List.getElem_range]
theorem zeros_get (i : Nat) : zeros.getD i false = false := by
  show (List.replicate 129 false).getD i false = false
  rw [List.getD, List.getElem?_replicate]
  split <;> simp
theorem ofNat_get (n i : Nat) (h : i < 64) : (BitVec.ofNat 64 n).getLsbD i = n.testBit i := by
  rw [BitVec.getLsbD_ofNat]; simp [h]
theorem bit63 (n : Nat) (h : n < 2 ^ 64) : n.testBit 63 = decide (9223372036854775808 ≤ n) := by
  rw [Nat.testBit_eq_decide_div_mod_eq]
  by_cases c : 9223372036854775808 ≤ n
  · rw [decide_eq_true c, decide_eq_true (by omega)]
  · rw [decide_eq_false c, decide_eq_false (by omega)]
theorem like_one (x : Nat) : (BitVec.ofNat 64 x == hB (fill zeros 0 64 x) 0 && 0#64 == hB (fill zeros 0 64 x) 64) = true := by
  rw [Bool.and_eq_true]
  refine ⟨hB_ext _ _ _ fun i hi => ?_, hB_ext _ _ _ fun i hi => ?_⟩
  · rw [ofNat_get x i hi, fill_get _ _ _ _ _ (by omega)]
    by_cases c : 0 + 1 ≤ 0 + 64 - i ∧ 0 + 64 - i ≤ 0 + 64
    · rw [if_pos c]; congr 1; omega
    · omega
  · rw [BitVec.getLsbD_zero, fill_get _ _ _ _ _ (by omega), if_neg (by omega), zeros_get]
theorem like_two (x y : Nat) (h0 : 9223372036854775808 ≤ x) (h1 : x < 2 ^ 64) :
    (BitVec.ofNat 64 (x - 9223372036854775808) == hB ((fill (fill zeros 0 64 x) 64 64 y).set 1 false) 0 && BitVec.ofNat 64 y == hB ((fill (fill zeros 0 64 x) 64 64 y).set 1 false) 64) = true := by
  have hl : (fill (fill zeros 0 64 x) 64 64 y).length = 129 := fill_len _ _ _ _
  rw [Bool.and_eq_true]
  refine ⟨hB_ext _ _ _ fun i hi => ?_, hB_ext _ _ _ fun i hi => ?_⟩
  · rw [ofNat_get _ i hi, getD_set _ _ _ _ (by omega), show x - 9223372036854775808 = x % 2 ^ 63 by omega, Nat.testBit_mod_two_pow]
    by_cases e : i = 63
    · subst e; rw [if_pos (by omega)]; simp
    · rw [if_neg (by omega), fill_get _ _ _ _ _ (by omega), if_neg (by omega), fill_get _ _ _ _ _ (by omega), if_pos (by omega), decide_eq_true (by omega), Bool.true_and]
      congr 1; omega
  · rw [ofNat_get _ i hi, getD_set _ _ _ _ (by omega), if_neg (by omega), fill_get _ _ _ _ _ (by omega), if_pos (by omega)]
    congr 1; omega
theorem any_two (q : List Bool) (y : Nat) : anyR (fill q 64 64 y) 63 = true ↔ ∃ i, i < 63 ∧ y.testBit i = true := by
  rw [anyR_iff]
  constructor
  · rintro ⟨i, h1, h2⟩
    rw [fill_get _ _ _ _ _ (by omega), if_pos (by omega)] at h2
    exact ⟨64 + 64 - (66 + i), by omega, h2⟩
  · rintro ⟨i, h1, h2⟩
    refine ⟨62 - i, by omega, ?_⟩
    rw [fill_get _ _ _ _ _ (by omega), if_pos (by omega), show 64 + 64 - (66 + (62 - i)) = i by omega]
    exact h2
set_option maxRecDepth 100000 in
set_option maxHeartbeats 1000000 in
theorem decodes_run (enc : Int) (b : ByteArray) (A B : B64) (q : List Bool) (e : Int) (z : Nat) (hq : q.length = 129)
    (QD : Hid (∀ w, Calls Try.prog 28 #[.int .i64 enc, .string b] w fun v w' => v = .returned (.tuple #[.agg #[.int .u64 (iv A), .int .u64 (iv B)], .int .i64 e, .int .i64 (z : Int)]) ∧ Below w.heap.size w w'))
    (QR : Hid (∀ w, Calls Try.prog 29 #[.int .i64 enc, .string b] w fun v w' => v = .returned (.tuple #[.agg (rowA q), .int .i64 e, .int .i64 (z : Int)]) ∧ Below w.heap.size w w'))
    (hlike : (A == hB q 0 && B == hB q 64) = true)
    (w : World) : Calls Try.prog 6 #[.int .i64 enc, .string b] w fun v w' => v = .returned (.bool true) ∧ Below w.heap.size w w' := by
  have hz := zero40
  have QL : Hid (∀ w, Calls Try.prog 24 #[.agg #[.int .u64 (iv A), .int .u64 (iv B)], .agg (rowA q)] w fun v w' => v = .returned (.bool true) ∧ Below w.heap.size w w') := Lib.hid fun w => by
    have := like_any A B q hq w; rwa [hlike] at this
  have HS : Hid ((Try.prog.info? 40).map (·.size) = some (rowA q).size) := by show _ = _; rw [info40, rowA_size, hq]
  have HZ : Hid ((rowA zeros).size = (rowA q).size) := by show _ = _; rw [rowA_size, rowA_size, hq, zeros_len]
  have H1 : Hid ((rowA q).all (·.oneCell') = true) := rowA_one q
  clear hlike hq
  go_enter Try.func6, Try.ntmps6
  go_wp2_with (first
    | (go_at_call 11; refine (examples_ok _).mono ?_; rintro v w1 ⟨rfl, hb1⟩)
    | (go_at_call 28; refine (QD.out _).mono ?_; rintro v w2 ⟨rfl, hb2⟩; have i2 := hb1.trans (hb2.mono hb1.size); have HM2 := Lib.hid (Blk.new w2 24 #[.int .u64 (iv A), .int .u64 (iv B)]); have i3 := i2.alloc i2.size (.cells #[.int .u64 (iv A), .int .u64 (iv B)] 24))
    | (go_at_call 29; refine (QR.out _).mono ?_; rintro v w4 ⟨rfl, hb4⟩; have hs4 : w2.heap.size < w4.heap.size := Nat.lt_of_lt_of_le HM2.out.lt hb4.size; have i4 := (i3.trans (hb4.mono i3.size)).alloc (Nat.le_trans i3.size hb4.size) (.cells (rowA zeros) 40); have HM4 := Lib.hid ((HM2.out.below hb4 HM2.out.lt).alloc (.cells (rowA zeros) 40)); have HT4 := Lib.hid (Blk.new w4 40 (rowA zeros)); have l4 := Nat.le_trans i3.size hb4.size; clear hb4)
    | (refine wpList_store_row rfl 40 (.tmp 9) (.tmp 25) rfl _ (rowA q) rfl rfl 40 (rowA zeros) HT4.out HS.out HZ.out H1.out ?_; have HT5 := Lib.hid (Blk.setRow (r := q) HT4.out); have hm5 := HM4.out.setRow_far (b := w4.heap.size) (c := rowA q) (by omega); have i5 := below_setRow (c := rowA q) i4 (g := w4.heap.size) l4; have x0 := hm5.cell 0; have x1 := hm5.cell 1; simp at x0 x1; clear hm5)
    | (refine wpList_load_row rfl 40 (.tmp 9) rfl _ rfl 40 (rowA q) (0, 0) _ HT5.out Try.underlying40 rfl HS.out ?_)
    | (go_at_call 24; refine (QL.out _).mono ?_; rintro v w6 ⟨rfl, hb6⟩; have i6 := i5.trans (hb6.mono i5.size)))
  go_ret
  exact ⟨rfl, i6⟩
theorem dec_val (enc : Int) (b : ByteArray) (hs : b.size ≤ 9223372036854775807) (F S e : Int) (z : Nat) (A B : B64) (h : decodeV enc b = (F, S, e, z)) (hA : iv A = F) (hB : iv B = S) :
    Hid (∀ w, Calls Try.prog 28 #[.int .i64 enc, .string b] w fun v w' => v = .returned (.tuple #[.agg #[.int .u64 (iv A), .int .u64 (iv B)], .int .i64 e, .int .i64 (z : Int)]) ∧ Below w.heap.size w w') := Lib.hid fun w => by
  have := decode_any enc b w hs
  rw [h] at this
  rw [hA, hB]
  exact this
theorem iv_nat (x : Int) (h0 : 0 ≤ x) (h1 : x < 18446744073709551616) : iv (BitVec.ofNat 64 x.toNat) = x := iv_of x h0 h1
theorem like_zeros : (0#64 == hB zeros 0 && 0#64 == hB zeros 64) = true := by
  rw [Bool.and_eq_true]; exact ⟨zero_like 0 (by omega), zero_like 64 (by omega)⟩
theorem tn_sub (x : Int) (h : 9223372036854775808 ≤ x) : (x - 9223372036854775808).toNat = x.toNat - 9223372036854775808 := by omega
theorem decodes_walk (enc : Int) (r1 : -9223372036854775808 ≤ enc) (r2 : enc ≤ 9223372036854775807) (b : ByteArray) (hs : b.size ≤ 9223372036854775807) {w : World} :
    Calls Try.prog 6 #[.int .i64 enc, .string b] w fun v w' => v = .returned (.bool true) ∧ Below w.heap.size w w' := by
  have z0 : iv 0#64 = 0 := rfl
  by_cases hf : formV enc = 0
  · have hk : knownB enc = false := by unfold knownB; rw [hf]; rfl
    have hd : decodeV enc b = (0, 0, 1, 0) := by unfold decodeV; rw [if_pos hf]
    exact decodes_run enc b 0#64 0#64 zeros 1 0 zeros_len (dec_val enc b hs 0 0 1 0 _ _ hd z0 z0) (Lib.hid fun w => rdec_no enc b hs hk w) like_zeros w
  have hk : knownB enc = true := by unfold knownB; rw [bne, beq_eq_false_iff_ne.2 hf]; rfl
  have hfe := fE_form enc hf
  obtain ⟨⟨x, e, z⟩, hr⟩ : ∃ r, readV (fE enc) b 0 = r := ⟨_, rfl⟩
  obtain ⟨x0, x1, k1, c1⟩ := readV_rng hr (Nat.zero_le _)
  obtain ⟨D, hd0⟩ : ∃ D, decodeV enc b = D := ⟨_, rfl⟩
  have hd := hd0
  unfold decodeV at hd
  rw [if_neg hf, hfe] at hd
  simp only [hr] at hd
  by_cases he : e = 0
  · subst he
    rw [if_neg (by simp)] at hd
    have hx64 : x.toNat < 2 ^ 64 := by omega
    have h63 : (fill zeros 0 64 x.toNat).getD 1 false = decide (9223372036854775808 ≤ x.toNat) := by
      rw [fill_get _ _ _ _ _ (by omega), if_pos (by omega)]; exact bit63 _ hx64
    by_cases hx : x < 9223372036854775808
    · rw [if_pos hx] at hd
      rw [decide_eq_false (by omega)] at h63
      exact decodes_run enc b (BitVec.ofNat 64 x.toNat) 0#64 _ 0 z (fill_len _ _ _ _) (dec_val enc b hs x 0 0 z _ _ (hd0.trans hd.symm) (iv_nat x x0 x1) z0) (Lib.hid fun w => rdec_one enc b hs hk x z hr _ rfl h63 w) (like_one _) w
    rw [if_neg hx] at hd
    rw [decide_eq_true (by omega)] at h63
    obtain ⟨⟨y, e, u⟩, hr2⟩ : ∃ r, readV (fE enc) b z = r := ⟨_, rfl⟩
    obtain ⟨y0, y1, k2, c2⟩ := readV_rng hr2 k1
    simp only [hr2] at hd
    by_cases he : e = 0
    · subst he
      rw [if_neg (by simp)] at hd
      have hy64 : y.toNat < 2 ^ 64 := by omega
      have g65 : (fill (fill zeros 0 64 x.toNat) 64 64 y.toNat).getD 65 false = decide (9223372036854775808 ≤ y.toNat) := by
        rw [fill_get _ _ _ _ _ (by omega), if_pos (by omega)]; exact bit63 _ hy64
      have ga := any_two (fill zeros 0 64 x.toNat) y.toNat
      by_cases hy : 9223372036854775808 ≤ y ∨ y = 0
      · rw [if_pos hy] at hd
        refine decodes_run enc b 0#64 0#64 zeros 20 z zeros_len (dec_val enc b hs 0 0 20 z _ _ (hd0.trans hd.symm) z0 z0) (Lib.hid fun w => rdec_bad enc b hs hk x z hr _ rfl h63 k1 y u hr2 _ rfl _ _ rfl rfl ?_ w) like_zeros w
        rcases hy with hy | hy
        · left; rw [g65]; exact decide_eq_true (by omega)
        · right
          refine ⟨by rw [g65]; exact decide_eq_false (by omega), ?_⟩
          cases h : anyR (fill (fill zeros 0 64 x.toNat) 64 64 y.toNat) 63
          · rfl
          · obtain ⟨i, _, h2⟩ := ga.1 h
            rw [hy] at h2
            simp at h2
      · rw [if_neg hy] at hd
        have hsm : anyR (fill (fill zeros 0 64 x.toNat) 64 64 y.toNat) 63 = true := by
          rw [ga]
          have hne : y.toNat ≠ 0 := by omega
          obtain ⟨i, hi⟩ := Nat.exists_testBit_of_ne_zero hne
          refine ⟨i, ?_, hi⟩
          refine Classical.byContradiction fun hno => ?_
          have hlt : y.toNat < 2 ^ i := Nat.lt_of_lt_of_le (show y.toNat < 2 ^ 63 by omega) (Nat.pow_le_pow_right (by omega) (by omega))
          rw [Nat.testBit_lt_two_pow hlt] at hi
          cases hi
        refine decodes_run enc b (BitVec.ofNat 64 (x.toNat - 9223372036854775808)) (BitVec.ofNat 64 y.toNat) _ 0 u (by rw [List.length_set]; exact fill_len _ _ _ _) (dec_val enc b hs _ _ 0 u _ _ (hd0.trans hd.symm) ?_ (iv_nat y y0 y1))
          (Lib.hid fun w => rdec_two enc b hs hk x z hr _ rfl h63 k1 y u hr2 _ rfl (by rw [g65]; exact decide_eq_false (by omega)) hsm w) (like_two x.toNat y.toNat (by omega) hx64) w
        have := iv_nat (x - 9223372036854775808) (by omega) (by omega)
        rwa [tn_sub x (Int.not_lt.1 hx)] at this
    · rw [if_pos he] at hd
      exact decodes_run enc b 0#64 0#64 zeros e u zeros_len (dec_val enc b hs 0 0 e u _ _ (hd0.trans hd.symm) z0 z0) (Lib.hid fun w => rdec_err2 enc b hs hk x z hr _ rfl h63 k1 y e u hr2 (by rw [bne, beq_eq_false_iff_ne.2 he]; rfl) w) like_zeros w
  · rw [if_pos he] at hd
    exact decodes_run enc b 0#64 0#64 zeros e z zeros_len (dec_val enc b hs 0 0 e z _ _ (hd0.trans hd.symm) z0 z0) (Lib.hid fun w => rdec_err1 enc b hs hk x e z hr (by rw [bne, beq_eq_false_iff_ne.2 he]; rfl) w) like_zeros w
end Go.Proofs.Ytieloocmkgficaa
