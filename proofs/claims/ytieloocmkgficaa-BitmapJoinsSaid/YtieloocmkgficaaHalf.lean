/-
  Halves, like, row, each by its contract.
-/
import Derived.Test.YtieloocmkgficaaRowsA
namespace Go.Proofs.Ytieloocmkgficaa
open Go.RowKit
set_option linter.unusedVariables false
set_option linter.unusedSimpArgs false
/-- k truths behind a place as a number. -/
def hN (r : List Bool) (o : Nat) : Nat → Nat
  | 0 => 0
  | k + 1 => 2 * hN r o k + (r.getD (o + k + 1) false).toNat
theorem hN_lt (r : List Bool) (o : Nat) : ∀ k, hN r o k < 2 ^ k
  | 0 => by simp [hN]
  | k + 1 => by
    have h := hN_lt r o k
    have b : (r.getD (o + k + 1) false).toNat ≤ 1 := by cases r.getD (o + k + 1) false <;> decide
    simp only [hN]
    rw [Nat.pow_succ]; omega
theorem hN_bit (r : List Bool) (o : Nat) : ∀ (k j : Nat), j < k → (hN r o k).testBit j = r.getD (o + k - j) false
  | 0, j, h => by omega
  | k + 1, j, h => by
    simp only [hN]
    have hb : (r.getD (o + k + 1) false).toNat < 2 := by cases r.getD (o + k + 1) false <;> decide
    match j with
    | 0 =>
      rw [Nat.testBit_zero, Nat.mul_add_mod, Nat.mod_eq_of_lt hb, show o + (k + 1) - 0 = o + k + 1 by omega]
      cases r.getD (o + k + 1) false <;> rfl
    | i + 1 =>
      rw [Nat.testBit_succ, show (2 * hN r o k + (r.getD (o + k + 1) false).toNat) / 2 = hN r o k by omega, hN_bit r o k i (by omega), show o + (k + 1) - (i + 1) = o + k - i by omega]
def hB (r : List Bool) (o : Nat) : B64 := BitVec.ofNat 64 (hN r o 64)
theorem hB_get (r : List Bool) (o i : Nat) (h : i < 64) : (hB r o).getLsbD i = r.getD (o + 64 - i) false := by
  unfold hB
  rw [← BitVec.testBit_toNat, BitVec.toNat_ofNat, Nat.mod_eq_of_lt (hN_lt r o 64)]
  exact hN_bit r o 64 i h
theorem iv_hB (r : List Bool) (o : Nat) : iv (hB r o) = nv (hN r o 64) := by
  unfold iv nv hB
  rw [BitVec.toNat_ofNat, Nat.mod_eq_of_lt (hN_lt r o 64)]
set_option maxHeartbeats 1000000 in
theorem halves_any (r : List Bool) (hr : r.length = 129) (w : World) : Calls Try.prog 46 #[.agg (rowA r)] w fun e w' => e = .returned (.tuple #[.int .u64 (iv (hB r 0)), .int .u64 (iv (hB r 64))]) ∧ Below w.heap.size w w' := by
  rw [iv_hB, iv_hB]
  obtain ⟨c, hc⟩ : ∃ c, rowA r = c := ⟨_, rfl⟩
  have HC : Hid (rowA r = c) := hc
  have HR := Lib.hid hr
  rw [hc]
  clear hc hr
  go_enter Try.func46, Try.ntmps46
  go_wp2
  go_loopw [4, 5, 6] (fun x y i wr => ∃ (j : Nat), j ≤ 64 ∧ i = .int .i64 ((j : Int) + 1) ∧ x = .int .u64 (nv (hN r 0 j)) ∧ y = .int .u64 (nv (hN r 64 j)) ∧ wr = w.alloc (.cells c 40)) (fun _ _ i _ => 65 - (intOf i).toNat)
  case atStart => exact ⟨0, by omega, rfl, rfl, rfl, rfl⟩
  case round =>
    obtain ⟨j, j1, rfl, rfl, rfl, rfl⟩ := hrel
    have hX := Blk.new w 40 c
    by_cases hlt : j < 64
    · have y0 := hX.cell (j + 1)
      have y1 := hX.cell (64 + (j + 1))
      rw [← HC.out, rowA_get r (j + 1) (by rw [HR.out]; omega), HC.out] at y0
      rw [← HC.out, rowA_get r (64 + (j + 1)) (by rw [HR.out]; omega), HC.out] at y1
      have g1 := hN_lt r 0 j
      have g2 := hN_lt r 64 j
      have p : 2 ^ j ≤ 2 ^ 63 := Nat.pow_le_pow_right (by omega) (by omega)
      obtain ⟨a, ha⟩ : ∃ a, hN r 0 j = a := ⟨_, rfl⟩
      obtain ⟨b, hb⟩ : ∃ b, hN r 64 j = b := ⟨_, rfl⟩
      rw [ha] at g1
      rw [hb] at g2
      rw [ha, hb]
      have W1 : IntKind.u64.wrap (2 * nv a) = nv (2 * a) := by
        rw [show 2 * nv a = nv (2 * a) by unfold nv; omega]; exact IntWalk.u64_in _ (by unfold nv; omega)
      have W2 : IntKind.u64.wrap (2 * nv b) = nv (2 * b) := by
        rw [show 2 * nv b = nv (2 * b) by unfold nv; omega]; exact IntWalk.u64_in _ (by unfold nv; omega)
      have W3 : IntKind.u64.wrap (nv (2 * a) + 1) = nv (2 * a + 1) := by
        rw [show nv (2 * a) + 1 = nv (2 * a + 1) by unfold nv; omega]; exact IntWalk.u64_in _ (by unfold nv; omega)
      have W4 : IntKind.u64.wrap (nv (2 * b) + 1) = nv (2 * b + 1) := by
        rw [show nv (2 * b) + 1 = nv (2 * b + 1) by unfold nv; omega]; exact IntWalk.u64_in _ (by unfold nv; omega)
      have R1 : Hid (hN r 0 (j + 1) = 2 * a + (r.getD (j + 1) false).toNat) := by show _ = _; simp only [hN]; rw [ha, Nat.zero_add]
      have R2 : Hid (hN r 64 (j + 1) = 2 * b + (r.getD (64 + (j + 1)) false).toNat) := by show _ = _; simp only [hN]; rw [hb]; rfl
      obtain ⟨v1, e1⟩ : ∃ v, r.getD (j + 1) false = v := ⟨_, rfl⟩
      obtain ⟨v2, e2⟩ : ∃ v, r.getD (64 + (j + 1)) false = v := ⟨_, rfl⟩
      rw [e1] at y0 R1
      rw [e2] at y1 R2
      clear e1 e2 ha hb g1 g2 p hX
      cases v1 <;> cases v2
      all_goals
        go_wp2
        go_roundw
        case rel => exact ⟨j + 1, by omega, by go_num, by rw [R1.out]; rfl, by rw [R2.out]; rfl, by trivial⟩
        case measure => simp [intOf]; omega
    · have hj : j = 64 := by omega
      subst hj
      clear hX
      go_wp2
      go_ret2
      exact ⟨rfl, (Below.refl _ _).alloc (Nat.le_refl _) _⟩
set_option maxHeartbeats 1000000 in
theorem like_any (F S : B64) (r : List Bool) (hr : r.length = 129) (w : World) : Calls Try.prog 24 #[.agg #[.int .u64 (iv F), .int .u64 (iv S)], .agg (rowA r)] w fun e w' => e = .returned (.bool (F == hB r 0 && S == hB r 64)) ∧ Below w.heap.size w w' := by
  have Q := Lib.hid fun w => halves_any r hr w
  have HS : Hid ((Try.prog.info? 40).map (·.size) = some (rowA r).size) := by show _ = _; rw [info40, rowA_size, hr]
  have HX : Hid (Blk ((w.alloc (.cells #[.int .u64 (iv F), .int .u64 (iv S)] 24)).alloc (.cells (rowA r) 40)) (w.heap.size + 1) 40 (rowA r)) := Blk.new2 _ _ _ _
  have E1 : (iv F == iv (hB r 0)) = (F == hB r 0) := iv_beq _ _
  have E2 : (iv S == iv (hB r 64)) = (S == hB r 64) := iv_beq _ _
  obtain ⟨X, hX⟩ : ∃ X, hB r 0 = X := ⟨_, rfl⟩
  obtain ⟨Y, hY⟩ : ∃ X, hB r 64 = X := ⟨_, rfl⟩
  rw [hX] at Q E1 ⊢
  rw [hY] at Q E2 ⊢
  obtain ⟨c, hc⟩ : ∃ c, rowA r = c := ⟨_, rfl⟩
  rw [hc] at Q HS HX ⊢
  clear hX hY hc hr
  obtain ⟨v1, e1⟩ : ∃ v, (F == X) = v := ⟨_, rfl⟩
  obtain ⟨v2, e2⟩ : ∃ v, (S == Y) = v := ⟨_, rfl⟩
  rw [e1] at E1 ⊢
  rw [e2] at E2 ⊢
  clear e1 e2
  cases v1 <;> cases v2
  all_goals
    go_enter Try.func24, Try.ntmps24
    go_wp2_with (first
      | (refine wpList_load_row rfl 40 (.tmp 3) rfl _ rfl 40 c (0, 0) _ HX.out Try.underlying40 rfl HS.out ?_)
      | (go_at_call 46; refine (Q.out _).mono ?_; rintro e w' ⟨rfl, hb⟩; have hX := ((Blk.new w 24 #[.int .u64 (iv F), .int .u64 (iv S)]).alloc (.cells c 40)).below hb (by simp; omega); have x0 := hX.cell 0; have x1 := hX.cell 1; simp at x0 x1; have hB2 := (below2 w (.cells #[.int .u64 (iv F), .int .u64 (iv S)] 24) (.cells c 40)).trans (hb.mono (by simp; omega)); clear hX hb))
    go_ret
    exact ⟨rfl, hB2⟩
set_option maxHeartbeats 1000000 in
theorem row_any (F S : B64) (w : World) : Calls Try.prog 27 #[.agg #[.int .u64 (iv F), .int .u64 (iv S)]] w fun e w' => e = .returned (.agg (rowA (rowOf F S))) ∧ Below w.heap.size w w' := by
  have hz := zero40
  have Q := Lib.hid fun w => rowof_any F S w
  have hq : (rowOf F S).length = 129 := rowK_len _ _ _
  generalize rowOf F S = q at *
  have HQL := Lib.hid hq
  have HS : Hid ((Try.prog.info? 40).map (·.size) = some (rowA q).size) := by show _ = _; rw [info40, rowA_size, hq]
  have HZ : Hid ((rowA zeros).size = (rowA q).size) := by show _ = _; rw [rowA_size, rowA_size, hq]; rfl
  have H1 : Hid ((rowA q).all (·.oneCell') = true) := rowA_one q
  clear hq
  go_enter Try.func27, Try.ntmps27
  go_wp2_with (first
    | (go_at_call 51; refine (Q.out _).mono ?_; rintro e w' ⟨rfl, hb⟩; have HX := Lib.hid ((Blk.new2 w (.cells #[.int .u64 (iv F), .int .u64 (iv S)] 24) 40 (rowA zeros)).below hb (by simp)); have hB2 := (below2 w (.cells #[.int .u64 (iv F), .int .u64 (iv S)] 24) (.cells (rowA zeros) 40)).trans (hb.mono (by simp; omega)); clear hb)
    | (refine wpList_store_row rfl 40 (.tmp 2) (.tmp 7) rfl _ (rowA q) rfl rfl 40 (rowA zeros) HX.out HS.out HZ.out H1.out ?_))
  exact ret_row rfl HQL.out rfl (Blk.setRow HX.out) rfl ⟨rfl, below_setRow hB2 (by omega)⟩
end Go.Proofs.Ytieloocmkgficaa
