/-
  BitmapAgain: the plain law and the walk.
-/
import Derived.Test.YtieloocmkgficaaEx
namespace Go.Proofs.Ytieloocmkgficaa
open Go.RowKit
set_option linter.unusedVariables false
set_option linter.unusedSimpArgs false
def encP (c : Int) : Int := if (if c < 0 then -(c + 1) else c) % 3 = 0 then 5 else if (if c < 0 then -(c + 1) else c) % 3 = 1 then 1 else 4
theorem encP_form (c : Int) : formV (encP c) ≠ 0 := by
  unfold encP
  repeat' split
  all_goals decide
theorem encoding_any (c : Int) (w : World) (h1 : -9223372036854775808 ≤ c) (h2 : c ≤ 9223372036854775807) : Calls Try.prog 30 #[.int .i64 c] w fun e w' => e = .returned (.int .i64 (encP c)) ∧ w = w' := by
  unfold encP
  by_cases hc : c < 0
  · have W1 : IntKind.i64.wrap (c + 1) = c + 1 := IntWalk.i64_in _ (by omega)
    have W2 : IntKind.i64.wrap (-(c + 1)) = -(c + 1) := IntWalk.i64_in _ (by omega)
    have T : (-(c + 1)).tmod 3 = (-(c + 1)) % 3 := Int.tmod_eq_emod_of_nonneg (by omega)
    rw [if_pos hc]
    have d : decide (c < 0) = true := decide_eq_true hc
    obtain ⟨a, ha⟩ : ∃ a, -(c + 1) = a := ⟨_, rfl⟩
    rw [ha] at W2 T ⊢
    have a3 : a % 3 = 0 ∨ a % 3 = 1 ∨ a % 3 = 2 := by omega
    rcases a3 with e | e | e <;> rw [e] at T ⊢
    all_goals
      clear e
      go_enter Try.func30, Try.ntmps30
      go_wp2
      go_ret
      exact ⟨by rfl, rfl⟩
  · have T : c.tmod 3 = c % 3 := Int.tmod_eq_emod_of_nonneg (by omega)
    rw [if_neg hc]
    have d : decide (c < 0) = false := decide_eq_false hc
    have a3 : c % 3 = 0 ∨ c % 3 = 1 ∨ c % 3 = 2 := by omega
    rcases a3 with e | e | e <;> rw [e] at T ⊢
    all_goals
      clear e
      go_enter Try.func30, Try.ntmps30
      go_wp2
      go_ret
      exact ⟨by rfl, rfl⟩
/-- Bytes read off a text are that text's part. -/
theorem son_bytes (b : ByteArray) (a n : Nat) (h : a + n ≤ b.size) : strOfNums ((List.range n).map (fun i => byt b (a + i))) = b.extract a (a + n) := by
  apply ByteArray.ext
  apply Array.ext
  · have h1 : (strOfNums ((List.range n).map (fun i => byt b (a + i)))).size = n := by rw [son_size]; simp
    have h2 : (b.extract a (a + n)).size = n := by rw [ByteArray.size_extract]; omega
    exact h1.trans h2.symm
  · intro i hi1 hi2
    have hn : i < n := by
      have h2 : (b.extract a (a + n)).size = n := by rw [ByteArray.size_extract]; omega
      exact Nat.lt_of_lt_of_eq hi2 h2
    have e1 : (b.extract a (a + n)).data[i]'hi2 = b.data[a + i]'(by have : b.data.size = b.size := rfl; omega) := by
      simp [ByteArray.data_extract]
    rw [e1]
    have e2 : (strOfNums ((List.range n).map (fun i => byt b (a + i)))).data[i]'hi1 = UInt8.ofNat (byt b (a + i)).toNat := by
      simp [strOfNums]
    rw [e2, ← byt_get b (a + i) (by omega)]
    show UInt8.ofNat (((b[a + i]'_).toNat : Int)).toNat = _
    simp
    rfl
theorem nums_hor (f : Int) (b : ByteArray) (a : Nat) (X : Int) (z : Nat) (h : readV f b a = (X, 0, z)) (ha : a ≤ b.size) : writtenV f X = b.extract a z ∧ z ≤ b.size ∧ z = a + manyV f := by
  unfold readV at h
  obtain ⟨h1, h2, h3, h4⟩ := rd_ok f b _ _ _ _ _ h
  obtain ⟨q1, q2, q3⟩ := nums_of_vals f b a h4
  have hz := h2 ha
  refine ⟨?_, by omega, h1⟩
  unfold writtenV
  rw [h3, q3, son_bytes b a _ hz, ← h1]
theorem extract_two (b : ByteArray) (m n : Nat) (h1 : m ≤ n) (h2 : n ≤ b.size) : b.extract 0 m ++ b.extract m n = b.extract 0 n := by
  apply ByteArray.ext
  simp [ByteArray.data_extract, ByteArray.data_append]
  rw [Nat.max_eq_right h1]
theorem again_plain (enc : Int) (b : ByteArray) (hf : formV enc ≠ 0) (F S e : Int) (z : Nat) (h : decodeV enc b = (F, S, e, z)) :
    z ≤ b.size ∧ (e ≠ 0 → F = 0 ∧ S = 0) ∧ 0 ≤ F ∧ F < 9223372036854775808 ∧ 0 ≤ S ∧ S < 9223372036854775808 ∧ (e = 0 → encodeV enc F S = (b.extract 0 z, 0)) := by
  unfold decodeV at h
  rw [if_neg hf] at h
  obtain ⟨⟨x, e1, z1⟩, hr⟩ : ∃ r, readV (formV enc) b 0 = r := ⟨_, rfl⟩
  obtain ⟨x0, x1, k1, c1⟩ := readV_rng hr (Nat.zero_le _)
  simp only [hr] at h
  split at h
  · simp only [Prod.mk.injEq] at h
    obtain ⟨rfl, rfl, rfl, rfl⟩ := h
    exact ⟨k1, fun _ => ⟨rfl, rfl⟩, by omega, by omega, by omega, by omega, fun h => by contradiction⟩
  rename_i he1
  have he1' : e1 = 0 := by omega
  subst he1'
  obtain ⟨w1, w2, w3⟩ := nums_hor _ _ _ _ _ hr (Nat.zero_le _)
  split at h
  · rename_i hx
    simp only [Prod.mk.injEq] at h
    obtain ⟨rfl, rfl, rfl, rfl⟩ := h
    refine ⟨k1, fun h => by contradiction, x0, hx, by omega, by omega, fun _ => ?_⟩
    unfold encodeV
    rw [if_neg (by omega), if_pos rfl, w1]
  rename_i hx
  obtain ⟨⟨y, e2, z2⟩, hr2⟩ : ∃ r, readV (formV enc) b z1 = r := ⟨_, rfl⟩
  obtain ⟨y0, y1, k2, c2⟩ := readV_rng hr2 k1
  simp only [hr2] at h
  split at h
  · simp only [Prod.mk.injEq] at h
    obtain ⟨rfl, rfl, rfl, rfl⟩ := h
    exact ⟨k2, fun _ => ⟨rfl, rfl⟩, by omega, by omega, by omega, by omega, fun h => by contradiction⟩
  rename_i he2
  have he2' : e2 = 0 := by omega
  subst he2'
  obtain ⟨u1, u2, u3⟩ := nums_hor _ _ _ _ _ hr2 k1
  split at h
  · simp only [Prod.mk.injEq] at h
    obtain ⟨rfl, rfl, rfl, rfl⟩ := h
    exact ⟨k1, fun _ => ⟨rfl, rfl⟩, by omega, by omega, by omega, by omega, fun h => by omega⟩
  rename_i hy
  simp only [Prod.mk.injEq] at h
  obtain ⟨rfl, rfl, rfl, rfl⟩ := h
  refine ⟨k2, fun h => by contradiction, by omega, by omega, by omega, by omega, fun _ => ?_⟩
  unfold encodeV
  rw [if_neg (by omega), if_neg (by omega), show x - 9223372036854775808 + 9223372036854775808 = x by omega, w1, u1, extract_two b z1 z2 (by omega) u2]
set_option maxHeartbeats 1000000 in
theorem again_bad (c k e : Int) (b : ByteArray) (z : Nat) (hz : z ≤ b.size) (hs : b.size ≤ 9223372036854775807) (he : (e != 0) = true)
    (K : Hid (∀ w, Calls Try.prog 30 #[.int .i64 c] w fun e w' => e = .returned (.int .i64 k) ∧ w = w'))
    (D : Hid (∀ w, Calls Try.prog 28 #[.int .i64 k, .string b] w fun r w' => r = .returned (.tuple #[.agg #[.int .u64 0, .int .u64 0], .int .i64 e, .int .i64 (z : Int)]) ∧ Below w.heap.size w w'))
    (w : World) : Calls Try.prog 7 #[.int .i64 c, .string b] w fun e w' => e = .returned (.bool true) ∧ Below w.heap.size w w' := by
  have d1 : decide ((z : Int) < 0) = false := decide_eq_false (by omega)
  have d2 : decide ((b.size : Int) < (z : Int)) = false := decide_eq_false (by omega)
  go_enter Try.func7, Try.ntmps7
  go_wp2_with (first
    | (go_at_call 11; refine (examples_ok _).mono ?_; rintro e w1 ⟨rfl, hb1⟩)
    | (go_at_call 30; refine (K.out _).mono ?_; rintro e w' ⟨rfl, rfl⟩)
    | (go_at_call 28; refine (D.out _).mono ?_; rintro e w2 ⟨rfl, hb2⟩; have i2 := hb1.trans (hb2.mono hb1.size)))
  go_ret
  exact ⟨rfl, i2.alloc i2.size _⟩
set_option maxHeartbeats 1000000 in
theorem again_ok (c k : Int) (b : ByteArray) (F S : B64) (z : Nat) (hz : z ≤ b.size) (hs : b.size ≤ 9223372036854775807)
    (K : Hid (∀ w, Calls Try.prog 30 #[.int .i64 c] w fun e w' => e = .returned (.int .i64 k) ∧ w = w'))
    (D : Hid (∀ w, Calls Try.prog 28 #[.int .i64 k, .string b] w fun r w' => r = .returned (.tuple #[.agg #[.int .u64 (iv F), .int .u64 (iv S)], .int .i64 0, .int .i64 (z : Int)]) ∧ Below w.heap.size w w'))
    (E : Hid (∀ w, Calls Try.prog 25 #[.int .i64 k, .agg #[.int .u64 (iv F), .int .u64 (iv S)]] w fun r w' => r = .returned (.tuple #[.string (b.extract 0 z), .int .i64 0]) ∧ Below w.heap.size w w'))
    (R : Hid (∀ w, Calls Try.prog 19 #[.agg #[.int .u64 (iv F), .int .u64 (iv S)]] w fun r w' => r = .returned (.bool true) ∧ Below w.heap.size w w'))
    (w : World) : Calls Try.prog 7 #[.int .i64 c, .string b] w fun e w' => e = .returned (.bool true) ∧ Below w.heap.size w w' := by
  have d1 : decide ((z : Int) < 0) = false := decide_eq_false (by omega)
  have d2 : decide ((b.size : Int) < (z : Int)) = false := decide_eq_false (by omega)
  have d3 : (z : Int) ≤ (b.size : Int) := by omega
  go_enter Try.func7, Try.ntmps7
  go_wp2_with (first
    | (go_at_call 11; refine (examples_ok _).mono ?_; rintro e w1 ⟨rfl, hb1⟩)
    | (go_at_call 30; refine (K.out _).mono ?_; rintro e w' ⟨rfl, rfl⟩)
    | (go_at_call 28; refine (D.out _).mono ?_; rintro e w2 ⟨rfl, hb2⟩; have i2 := hb1.trans (hb2.mono hb1.size); have hX := Blk.new w2 24 #[.int .u64 (iv F), .int .u64 (iv S)]; have i3 := i2.alloc i2.size (.cells #[.int .u64 (iv F), .int .u64 (iv S)] 24))
    | (go_at_call 25; refine (E.out _).mono ?_; rintro e w3 ⟨rfl, hb3⟩; have i4 := i3.trans (hb3.mono i3.size); have hX3 := hX.below hb3 hX.lt; have x0 := hX3.cell 0; have x1 := hX3.cell 1; simp at x0 x1; clear hX hX3)
    | (go_at_call 19; refine (R.out _).mono ?_; rintro e w4 ⟨rfl, hb4⟩; have i5 := i4.trans (hb4.mono i4.size)))
  go_ret
  exact ⟨rfl, i5⟩
theorem again_walk (c : Int) (h1 : -9223372036854775808 ≤ c) (h2 : c ≤ 9223372036854775807) (b : ByteArray) (hs : b.size ≤ 9223372036854775807) {w : World} :
    Calls Try.prog 7 #[.int .i64 c, .string b] w fun e w' => e = .returned (.bool true) ∧ Below w.heap.size w w' := by
  have K := Lib.hid fun w => encoding_any c w h1 h2
  have hf := encP_form c
  generalize encP c = k at *
  obtain ⟨⟨F, S, e, z⟩, hd⟩ : ∃ r, decodeV k b = r := ⟨_, rfl⟩
  obtain ⟨p1, p2, p3, p4, p5, p6, p7⟩ := again_plain k b hf F S e z hd
  have D : ∀ w, Calls Try.prog 28 #[.int .i64 k, .string b] w fun r w' => r = .returned (decVal (F, S, e, z)) ∧ Below w.heap.size w w' := fun w => by
    have := decode_any k b w hs
    rwa [hd] at this
  by_cases he : e = 0
  · subst he
    have f1 := iv_of F p3 (by omega)
    have f2 := iv_of S p5 (by omega)
    have E := fun w => encode_any k (BitVec.ofNat 64 F.toNat) (BitVec.ofNat 64 S.toNat) w
    have R := fun w => right_any (BitVec.ofNat 64 F.toNat) (BitVec.ofNat 64 S.toNat) w
    have hr := (right_iff (BitVec.ofNat 64 F.toNat) (BitVec.ofNat 64 S.toNat)).2 (by rw [f1, f2]; exact ⟨p4, p6⟩)
    rw [f1, f2, p7 rfl] at E
    rw [hr] at R
    refine again_ok c k b (BitVec.ofNat 64 F.toNat) (BitVec.ofNat 64 S.toNat) z p1 hs K (Lib.hid ?_) (Lib.hid ?_) (Lib.hid R) w
    · rw [f1, f2]; exact D
    · rw [f1, f2]; exact E
  · obtain ⟨rfl, rfl⟩ := p2 he
    exact again_bad c k e b z p1 hs (by rw [bne, beq_eq_false_iff_ne.2 he]; rfl) K (Lib.hid D) w
end Go.Proofs.Ytieloocmkgficaa
