/-
  Decode by its contract.
-/
import Derived.Test.YtieloocmkgficaaDec
namespace Go.Proofs.Ytieloocmkgficaa
open Go.RowKit
set_option linter.unusedVariables false
set_option linter.unusedSimpArgs false
theorem pl_nat (X : B64) : (pl X).toNat = X.toNat % 9223372036854775808 := by
  unfold pl
  rw [BitVec.toNat_and, show (~~~topB).toNat = 2 ^ 63 - 1 by decide]
  exact Nat.and_two_pow_sub_one_eq_mod X.toNat 63
theorem top_nat (X : B64) : (X &&& topB).toNat = if X.toNat < 9223372036854775808 then 0 else 9223372036854775808 := by
  have hx := X.isLt
  have hb : X.getLsbD 63 = decide (X.toNat / 2 ^ 63 % 2 = 1) := by rw [← BitVec.testBit_toNat, Nat.testBit_eq_decide_div_mod_eq]
  unfold topB
  rw [BitVec.and_twoPow, hb]
  by_cases h : X.toNat < 9223372036854775808
  · rw [if_pos h, decide_eq_false (by omega)]; rfl
  · rw [if_neg h, decide_eq_true (by omega)]; rfl
theorem or_nat (X : B64) (h : X.toNat < 9223372036854775808) : (X ||| topB).toNat = X.toNat + 9223372036854775808 := by
  rw [BitVec.toNat_or, show topB.toNat = 2 ^ 63 * 1 by decide, Nat.or_comm, ← Nat.two_pow_add_eq_or_of_lt (by omega)]
  omega
theorem iv_of (x : Int) (h0 : 0 ≤ x) (h1 : x < 18446744073709551616) : iv (BitVec.ofNat 64 x.toNat) = x := by
  unfold iv
  rw [BitVec.toNat_ofNat, Nat.mod_eq_of_lt (by omega)]; omega
theorem and_top_lo (x : Int) (h0 : 0 ≤ x) (h1 : x < 9223372036854775808) : bits .and .u64 x 9223372036854775808 = 0 := by
  have e := iv_of x h0 (by omega)
  rw [← e, bits_top_and]
  unfold iv at e ⊢
  rw [top_nat, if_pos (by omega)]; rfl
theorem and_top_hi (x : Int) (h0 : 9223372036854775808 ≤ x) (h1 : x < 18446744073709551616) : bits .and .u64 x 9223372036854775808 = 9223372036854775808 := by
  have e := iv_of x (by omega) h1
  rw [← e, bits_top_and]
  unfold iv at e ⊢
  rw [top_nat, if_neg (by omega)]; rfl
theorem andNot_top (x : Int) (h0 : 9223372036854775808 ≤ x) (h1 : x < 18446744073709551616) : bits .andNot .u64 x 9223372036854775808 = x - 9223372036854775808 := by
  have e := iv_of x (by omega) h1
  have e2 : bits .andNot .u64 (iv (BitVec.ofNat 64 x.toNat)) 9223372036854775808 = x - 9223372036854775808 := by
    rw [bits_top]
    unfold iv at e ⊢
    rw [pl_nat]; omega
  rwa [e] at e2
theorem or_top (x : Int) (h0 : 0 ≤ x) (h1 : x < 9223372036854775808) : bits .or .u64 x 9223372036854775808 = x + 9223372036854775808 := by
  have e := iv_of x h0 (by omega)
  have e2 : bits .or .u64 (iv (BitVec.ofNat 64 x.toNat)) 9223372036854775808 = x + 9223372036854775808 := by
    rw [top_int, bits_or, ← top_int]
    unfold iv at e ⊢
    rw [or_nat _ (by omega)]; omega
  rwa [e] at e2
theorem rd_err (f : Int) (b : ByteArray) : ∀ (n : Nat) (x : Int) (a : Nat) (X e : Int) (z : Nat), rd f b n x a = (X, e, z) → (e = 0 ∨ (e = 10 ∧ X = 0) ∨ (e = 11 ∧ X = 0)) ∧ (a ≤ b.size → z ≤ b.size)
  | 0, x, a, X, e, z, h => by
    unfold rd at h
    injection h with h1 h2
    injection h2 with h2 h3
    exact ⟨.inl h2.symm, fun h => by omega⟩
  | n + 1, x, a, X, e, z, h => by
    unfold rd at h
    split at h
    · injection h with h1 h2; injection h2 with h2 h3; exact ⟨.inr (.inl ⟨h2.symm, h1.symm⟩), fun h => by omega⟩
    split at h
    · injection h with h1 h2; injection h2 with h2 h3; exact ⟨.inr (.inr ⟨h2.symm, h1.symm⟩), fun h => by omega⟩
    obtain ⟨k1, k2⟩ := rd_err f b n _ _ X e z h
    exact ⟨k1, fun h => k2 (by omega)⟩
theorem readV_rng {f : Int} {b : ByteArray} {a : Nat} {X e : Int} {z : Nat} (h : readV f b a = (X, e, z)) (ha : a ≤ b.size) : 0 ≤ X ∧ X < 18446744073709551616 ∧ z ≤ b.size ∧ (e = 0 ∨ e = 10 ∨ e = 11) := by
  unfold readV at h
  obtain ⟨k1, k2⟩ := rd_err f b _ _ _ _ _ _ h
  refine ⟨?_, ?_, k2 ha, by rcases k1 with k | k | k <;> simp [k]⟩
  all_goals
    rcases k1 with k | k | k
    · subst k
      obtain ⟨r1, r2, r3, r4⟩ := rd_ok f b _ _ _ _ _ h
      have := nums_of_vals f b a r4
      omega
    · omega
    · omega
theorem read_is (f : Int) (b : ByteArray) (at0 : Nat) (x e : Int) (z : Nat) (w : World) (hs : b.size ≤ 9223372036854775807) (h0 : at0 ≤ b.size) (h : readV f b at0 = (x, e, z)) :
    Calls Try.prog 52 #[.int .i64 f, .string b, .int .i64 at0] w fun r w' => r = .returned (.tuple #[.int .u64 x, .int .i64 e, .int .i64 (z : Int)]) ∧ w = w' := by
  have k := read_any f b at0 w hs h0
  rw [h] at k
  exact k
theorem read_is0 (f : Int) (b : ByteArray) (x e : Int) (z : Nat) (w : World) (hs : b.size ≤ 9223372036854775807) (h : readV f b 0 = (x, e, z)) :
    Calls Try.prog 52 #[.int .i64 f, .string b, .int .i64 0] w fun r w' => r = .returned (.tuple #[.int .u64 x, .int .i64 e, .int .i64 (z : Int)]) ∧ w = w' := read_is f b 0 x e z w hs (Nat.zero_le _) h
def decVal (r : Int × Int × Int × Nat) : Value := .tuple #[.agg #[.int .u64 r.1, .int .u64 r.2.1], .int .i64 r.2.2.1, .int .i64 (r.2.2.2 : Int)]
theorem results_cell_tmp2 {fn : Func} {p u v : Tmp} {ty : TypeId} (h : fn.results = #[.cell p ty, .tmp u, .tmp v]) (tmps : Array Value) (P : Program) (w : World) :
    (results fn tmps).run P w =
      ((asAddr (tmps.getD p undef)).run P w).andThen fun a w₁ => ((loadVar ty a).run P w₁).andThen fun x w₂ => .ok (.tuple #[x, tmps.getD u undef, tmps.getD v undef]) w₂ := by
  simp only [results, h]
  simp [Sem.run_bind, Result.andThen]
theorem ret_map3 {fn : Func} {p q r : Tmp} {a : Act} {w : World} {R : Ending → World → Prop} {g : Nat} {x y : Value} (h : fn.results = #[.cell p 24, .tmp q, .tmp r]) (hp : a.tmps.getD p undef = .pointer (some ⟨g, 0, none⟩))
    (hg : Blk w g 24 #[x, y]) (hd : a.defers = []) (hR : R (.returned (.tuple #[.agg #[x, y], a.tmps.getD q undef, a.tmps.getD r undef])) w) : bodyPost Try.prog fn R .ret a w := by
  refine bodyPost_ret (v := .tuple #[.agg #[x, y], a.tmps.getD q undef, a.tmps.getD r undef]) ?_ hd hR
  rw [results_cell_tmp2 h, hp]
  simp [asAddr, Result.andThen, run_loadVar_row w g 24 24 #[x, y] (0, 0) _ hg Try.underlying24 rfl info24]
theorem dec_ret (F S e : Int) (z : Nat) (r : Int × Int × Int × Nat) (h : r = (F, S, e, z)) : Ending.returned (.tuple #[.agg #[.int .u64 F, .int .u64 S], .int .i64 e, .int .i64 (z : Int)]) = Ending.returned (decVal r) := by rw [h]; rfl
set_option maxHeartbeats 800000 in
theorem decode_any (enc : Int) (b : ByteArray) (w : World) (hs : b.size ≤ 9223372036854775807) :
    Calls Try.prog 28 #[.int .i64 enc, .string b] w fun e w' => e = .returned (decVal (decodeV enc b)) ∧ Below w.heap.size w w' := by
  obtain ⟨f, hf⟩ : ∃ f, formV enc = f := ⟨_, rfl⟩
  have HF := Lib.hid hf
  by_cases f0 : f = 0
  · subst f0
    have hD : Hid (decodeV enc b = (0, 0, 1, 0)) := by show _ = _; unfold decodeV; rw [if_pos hf]
    clear hf
    go_enter Try.func28, Try.ntmps28
    go_wp2_with (go_at_call 47; refine (form_any _ _).mono ?_; rintro e w' ⟨rfl, rfl⟩; rw [HF.out])
    exact ret_map3 rfl rfl (Blk.new _ _ _) rfl ⟨dec_ret 0 0 1 0 _ hD.out, (Below.refl _ _).alloc (Nat.le_refl _) _⟩
  obtain ⟨⟨x, e, z⟩, hr⟩ : ∃ r, readV f b 0 = r := ⟨_, rfl⟩
  obtain ⟨x0, x1, z1, e0⟩ := readV_rng hr (Nat.zero_le _)
  have fe : (f == 0) = false := by rw [beq_eq_false_iff_ne]; exact f0
  have D0 : decodeV enc b = if e ≠ 0 then (0, 0, e, z) else if x < 9223372036854775808 then (x, 0, 0, z) else
      if (readV f b z).2.1 ≠ 0 then (0, 0, (readV f b z).2.1, (readV f b z).2.2) else if 9223372036854775808 ≤ (readV f b z).1 ∨ (readV f b z).1 = 0 then (0, 0, 20, z) else (x - 9223372036854775808, (readV f b z).1, 0, (readV f b z).2.2) := by
    unfold decodeV
    simp only [hf, if_neg f0, hr]
  have HR := Lib.hid hr
  by_cases he : e = 0
  · subst he
    rw [if_neg (by simp)] at D0
    by_cases hx : x < 9223372036854775808
    · rw [if_pos hx] at D0
      have HD := Lib.hid D0
      have A := and_top_lo x x0 hx
      clear D0 f0 hr hf e0
      go_enter Try.func28, Try.ntmps28
      go_wp2_with (first
        | (go_at_call 47; refine (form_any _ _).mono ?_; rintro e w' ⟨rfl, rfl⟩; rw [HF.out])
        | (go_at_call_of 52 (Value.int IntKind.i64 0); refine (read_is0 _ _ _ _ _ _ hs HR.out).mono ?_; rintro e w' ⟨rfl, rfl⟩))
      exact ret_map3 rfl rfl (Blk.new _ _ _) rfl ⟨dec_ret x 0 0 z _ HD.out, (Below.refl _ _).alloc (Nat.le_refl _) _⟩
    rw [if_neg hx] at D0
    have A := and_top_hi x (by omega) x1
    have A2 := andNot_top x (by omega) x1
    obtain ⟨⟨y, e, u⟩, hr2⟩ : ∃ r, readV f b z = r := ⟨_, rfl⟩
    obtain ⟨y0, y1, u1, k0⟩ := readV_rng hr2 z1
    have HR2 := Lib.hid hr2
    rw [hr2] at D0
    simp only at D0
    by_cases he : e = 0
    · subst he
      rw [if_neg (by simp)] at D0
      by_cases hy : 9223372036854775808 ≤ y ∨ y = 0
      · rw [if_pos hy] at D0
        have HD := Lib.hid D0
        have HY := Lib.hid hy
        clear D0 f0 hr hf e0 hr2 hx k0 hy
        rcases HY.out with hy | hy
        · have B := and_top_hi y hy y1
          clear hy y0 y1 x0 x1
          go_enter Try.func28, Try.ntmps28
          go_wp2_with (first
            | (go_at_call 47; refine (form_any _ _).mono ?_; rintro e w' ⟨rfl, rfl⟩; rw [HF.out])
            | (go_at_call_of 52 (Value.int IntKind.i64 0); refine (read_is0 _ _ _ _ _ _ hs HR.out).mono ?_; rintro e w' ⟨rfl, rfl⟩)
            | (go_at_call 52; refine (read_is _ _ _ _ _ _ _ hs z1 HR2.out).mono ?_; rintro e w' ⟨rfl, rfl⟩))
          exact ret_map3 rfl rfl (Blk.new _ _ _) rfl ⟨dec_ret 0 0 20 z _ HD.out, (Below.refl _ _).alloc (Nat.le_refl _) _⟩
        · subst hy
          have B := and_top_lo 0 (by omega) (by omega)
          clear y0 y1 x0 x1
          go_enter Try.func28, Try.ntmps28
          go_wp2_with (first
            | (go_at_call 47; refine (form_any _ _).mono ?_; rintro e w' ⟨rfl, rfl⟩; rw [HF.out])
            | (go_at_call_of 52 (Value.int IntKind.i64 0); refine (read_is0 _ _ _ _ _ _ hs HR.out).mono ?_; rintro e w' ⟨rfl, rfl⟩)
            | (go_at_call 52; refine (read_is _ _ _ _ _ _ _ hs z1 HR2.out).mono ?_; rintro e w' ⟨rfl, rfl⟩))
          exact ret_map3 rfl rfl (Blk.new _ _ _) rfl ⟨dec_ret 0 0 20 z _ HD.out, (Below.refl _ _).alloc (Nat.le_refl _) _⟩
      · rw [if_neg hy] at D0
        have HD := Lib.hid D0
        have B := and_top_lo y y0 (by omega)
        have ye : (y == 0) = false := by rw [beq_eq_false_iff_ne]; omega
        clear D0 f0 hr hf e0 hr2 hx k0 hy y0 y1 x0 x1
        go_enter Try.func28, Try.ntmps28
        go_wp2_with (first
          | (go_at_call 47; refine (form_any _ _).mono ?_; rintro e w' ⟨rfl, rfl⟩; rw [HF.out])
          | (go_at_call_of 52 (Value.int IntKind.i64 0); refine (read_is0 _ _ _ _ _ _ hs HR.out).mono ?_; rintro e w' ⟨rfl, rfl⟩)
          | (go_at_call 52; refine (read_is _ _ _ _ _ _ _ hs z1 HR2.out).mono ?_; rintro e w' ⟨rfl, rfl⟩))
        exact ret_map3 rfl rfl (Blk.new _ _ _) rfl ⟨dec_ret (x - 9223372036854775808) y 0 u _ HD.out, (Below.refl _ _).alloc (Nat.le_refl _) _⟩
    · rw [if_pos he] at D0
      have HD := Lib.hid D0
      have ee : (e == 0) = false := by rw [beq_eq_false_iff_ne]; exact he
      have ee' : (e != 0) = true := by rw [bne, ee]; rfl
      clear D0 f0 hr hf e0 hr2 hx k0 he y0 y1 x0 x1
      go_enter Try.func28, Try.ntmps28
      go_wp2_with (first
        | (go_at_call 47; refine (form_any _ _).mono ?_; rintro e w' ⟨rfl, rfl⟩; rw [HF.out])
        | (go_at_call_of 52 (Value.int IntKind.i64 0); refine (read_is0 _ _ _ _ _ _ hs HR.out).mono ?_; rintro e w' ⟨rfl, rfl⟩)
        | (go_at_call 52; refine (read_is _ _ _ _ _ _ _ hs z1 HR2.out).mono ?_; rintro e w' ⟨rfl, rfl⟩))
      exact ret_map3 rfl rfl (Blk.new _ _ _) rfl ⟨dec_ret 0 0 e u _ HD.out, (Below.refl _ _).alloc (Nat.le_refl _) _⟩
  · rw [if_pos he] at D0
    have HD := Lib.hid D0
    have ee : (e == 0) = false := by rw [beq_eq_false_iff_ne]; exact he
    have ee' : (e != 0) = true := by rw [bne, ee]; rfl
    clear D0 f0 hr hf e0 he
    go_enter Try.func28, Try.ntmps28
    go_wp2_with (first
      | (go_at_call 47; refine (form_any _ _).mono ?_; rintro e w' ⟨rfl, rfl⟩; rw [HF.out])
      | (go_at_call_of 52 (Value.int IntKind.i64 0); refine (read_is0 _ _ _ _ _ _ hs HR.out).mono ?_; rintro e w' ⟨rfl, rfl⟩))
    exact ret_map3 rfl rfl (Blk.new _ _ _) rfl ⟨dec_ret 0 0 e z _ HD.out, (Below.refl _ _).alloc (Nat.le_refl _) _⟩
end Go.Proofs.Ytieloocmkgficaa
