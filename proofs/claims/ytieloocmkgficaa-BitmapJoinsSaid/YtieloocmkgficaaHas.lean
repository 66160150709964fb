/-
  Has, With, Without, Len, each by its contract.
-/
import Derived.Test.YtieloocmkgficaaLeaf
namespace Go.Proofs.Ytieloocmkgficaa
open Go.RowKit
set_option linter.unusedVariables false
set_option linter.unusedSimpArgs false
theorem has_two {F S : B64} {n : Int} (h : fldB n = true) : ((iv (F &&& oF n) != 0) = hasB F S n ∧ (iv (S &&& oS n) != 0) = false) ∨ ((iv (F &&& oF n) != 0) = false ∧ (iv (S &&& oS n) != 0) = hasB F S n) := by
  unfold hasB oF oS
  rw [h]
  simp only [bne]
  rcases fld_cases h with ⟨h1, h2⟩ | ⟨h1, h2⟩
  · left
    simp only [if_pos h2, Bool.true_and, iv_eq0, and_tw0, Bool.not_not, true_and]
    simp
  · right
    simp only [if_neg (show ¬ n ≤ 64 by omega), Bool.true_and, iv_eq0, and_tw0, Bool.not_not, and_true]
    simp
theorem fld_bd {n : Int} (h : fldB n = true) : 2 ≤ n ∧ n ≤ 128 := by
  rcases fld_cases h with ⟨h1, h2⟩ | ⟨h1, h2⟩ <;> omega
set_option maxHeartbeats 400000 in
theorem has_any (F S : B64) (n : Int) (w : World) : Calls Try.prog 14 #[.agg #[.int .u64 (iv F), .int .u64 (iv S)], .int .i64 n] w fun e w' => e = .returned (.bool (hasB F S n)) ∧ Below w.heap.size w w' := by
  cases hf : fldB n
  · have hh : Hid (hasB F S n = false) := by show _ = _; unfold hasB; rw [hf]; rfl
    have HF := Lib.hid hf
    clear hf
    go_enter Try.func14, Try.ntmps14
    go_wp2_with (go_at_call 42; refine (field_any _ _).mono ?_; rintro e w' ⟨rfl, rfl⟩; rw [HF.out])
    go_ret
    exact ⟨by rw [hh.out]; rfl, (Below.refl _ _).alloc (Nat.le_refl _) _⟩
  · obtain ⟨h1, h2⟩ := fld_bd hf
    obtain ⟨b, hb⟩ : ∃ b, hasB F S n = b := ⟨_, rfl⟩
    have B1 := bits_and F (oF n)
    have B2 := bits_and S (oS n)
    have HF := Lib.hid hf
    rcases has_two (F := F) (S := S) hf with ⟨t1, t2⟩ | ⟨t1, t2⟩ <;> simp only [hb] at t1 t2 ⊢ <;> clear hf hb <;> cases b
    all_goals
      go_enter Try.func14, Try.ntmps14
      go_wp2_with (first
        | (go_at_call 42; refine (field_any _ _).mono ?_; rintro e w' ⟨rfl, rfl⟩; rw [HF.out])
        | (go_at_call 43; refine (one_any _ _ h1 h2).mono ?_; rintro e w' ⟨rfl, hb⟩; have hX := (Blk.new w 24 #[.int .u64 (iv F), .int .u64 (iv S)]).below hb (by simp); have x0 := hX.cell 0; have x1 := hX.cell 1; have hs2 : w.heap.size < w'.heap.size := (by have := hb.size; simp at this; omega); have hB := (((Below.refl _ w).alloc (Nat.le_refl _) (.cells #[.int .u64 (iv F), .int .u64 (iv S)] 24)).trans (hb.mono (by simp))); simp at x0 x1; clear hX hb))
      all_goals
        go_ret
        exact ⟨rfl, hB.alloc hB.size _⟩
def wF (F S : B64) (n : Int) : B64 := if fldB n && rightB F S then F ||| oF n else 0#64
def wS (F S : B64) (n : Int) : B64 := if fldB n && rightB F S then S ||| oS n else 0#64
def wE (F S : B64) (n : Int) : Int := if fldB n && rightB F S then 0 else 1
def woF (F : B64) (n : Int) : B64 := if fldB n then F &&& ~~~(oF n) else F
def woS (S : B64) (n : Int) : B64 := if fldB n then S &&& ~~~(oS n) else S
set_option maxHeartbeats 400000 in
theorem with_any (F S : B64) (n : Int) (w : World) : Calls Try.prog 16 #[.agg #[.int .u64 (iv F), .int .u64 (iv S)], .int .i64 n] w fun e w' => e = .returned (.tuple #[.agg #[.int .u64 (iv (wF F S n)), .int .u64 (iv (wS F S n))], .int .i64 (wE F S n)]) ∧ Below w.heap.size w w' := by
  unfold wF wS wE
  cases hf : fldB n
  · have HF := Lib.hid hf
    clear hf
    simp only [Bool.false_and, Bool.false_eq_true, if_false]
    go_enter Try.func16, Try.ntmps16
    go_wp2_with (go_at_call 42; refine (field_any _ _).mono ?_; rintro e w' ⟨rfl, rfl⟩; rw [HF.out])
    exact ret_map2 rfl rfl (Blk.new2 _ _ _ _) rfl ⟨rfl, below2 _ _ _⟩
  cases hr : rightB F S
  · have HF := Lib.hid hf
    have HR := Lib.hid hr
    clear hf hr
    simp only [Bool.and_false, Bool.false_eq_true, if_false]
    go_enter Try.func16, Try.ntmps16
    go_wp2_with (first
      | (go_at_call 42; refine (field_any _ _).mono ?_; rintro e w' ⟨rfl, rfl⟩; rw [HF.out])
      | (go_at_call 19; refine (right_any _ _ _).mono ?_; rintro e w1 ⟨rfl, hb1⟩; rw [HR.out]; have hY := (Blk.new2 w (.cells #[.int .u64 (iv F), .int .u64 (iv S)] 24) 24 #[.int .u64 0, .int .u64 0]).below hb1 (by simp); have y0 := hY.cell 0; have y1 := hY.cell 1; have f0 := hY.frozen 0; have f1 := hY.frozen 1; simp at y0 y1; have HY := Lib.hid hY; clear hY))
    exact ret_map2 rfl rfl (HY.out.store2 _ _) rfl ⟨rfl, below_store2 ((below2 w _ _).trans (hb1.mono (by simp; omega))) (by omega) _ _⟩
  · obtain ⟨h1, h2⟩ := fld_bd hf
    have HF := Lib.hid hf
    have HR := Lib.hid hr
    clear hf hr
    have B1 := bits_or F (oF n)
    have B2 := bits_or S (oS n)
    simp only [Bool.and_self, if_true]
    go_enter Try.func16, Try.ntmps16
    go_wp2_with (first
      | (go_at_call 42; refine (field_any _ _).mono ?_; rintro e w' ⟨rfl, rfl⟩; rw [HF.out])
      | (go_at_call 19; refine (right_any _ _ _).mono ?_; rintro e w1 ⟨rfl, hb1⟩; rw [HR.out]; have hX := ((Blk.new w 24 #[.int .u64 (iv F), .int .u64 (iv S)]).alloc (.cells #[.int .u64 0, .int .u64 0] 24)).below hb1 (by simp; omega); have hY := (Blk.new2 w (.cells #[.int .u64 (iv F), .int .u64 (iv S)] 24) 24 #[.int .u64 0, .int .u64 0]).below hb1 (by simp); have hs1 : w.heap.size + 2 ≤ w1.heap.size := (by have := hb1.size; simpa using this); have hs1a : w.heap.size < w1.heap.size := (by omega); have hs1b : w.heap.size + 1 < w1.heap.size := (by omega); have HX := Lib.hid hX; have HY := Lib.hid hY; clear hX hY)
      | (go_at_call 43; refine (one_any _ _ h1 h2).mono ?_; rintro e w2 ⟨rfl, hb2⟩; have hX := HX.out.below hb2 (by omega); have hY := HY.out.below hb2 (by omega); have x0 := hX.cell 0; have x1 := hX.cell 1; have y0 := hY.cell 0; have y1 := hY.cell 1; have f0 := hY.frozen 0; have f1 := hY.frozen 1; have hs2 : w1.heap.size ≤ w2.heap.size := hb2.size; have hs2a : w.heap.size < w2.heap.size := (by omega); have hs2b : w.heap.size + 1 < w2.heap.size := (by omega); simp at x0 x1 y0 y1; have HZ := Lib.hid hY; clear hX hY))
    exact ret_map2 rfl rfl ((HZ.out.store2 _ _).alloc _) rfl ⟨rfl, (below_store2 (((below2 w _ _).trans (hb1.mono (by simp; omega))).trans (hb2.mono (by omega))) (by omega) _ _).alloc (by simp; omega) _⟩
set_option maxHeartbeats 400000 in
theorem without_any (F S : B64) (n : Int) (w : World) : Calls Try.prog 17 #[.agg #[.int .u64 (iv F), .int .u64 (iv S)], .int .i64 n] w fun e w' => e = .returned (.agg #[.int .u64 (iv (woF F n)), .int .u64 (iv (woS S n))]) ∧ Below w.heap.size w w' := by
  unfold woF woS
  cases hf : fldB n
  · have HF := Lib.hid hf
    clear hf
    simp only [Bool.false_eq_true, if_false]
    go_enter Try.func17, Try.ntmps17
    go_wp2_with (go_at_call 42; refine (field_any _ _).mono ?_; rintro e w' ⟨rfl, rfl⟩; rw [HF.out])
    exact ret_map rfl rfl (Blk.new2 _ _ _ _) rfl ⟨rfl, below2 _ _ _⟩
  · obtain ⟨h1, h2⟩ := fld_bd hf
    have HF := Lib.hid hf
    clear hf
    have B1 := bits_andNot F (oF n)
    have B2 := bits_andNot S (oS n)
    simp only [if_true]
    go_enter Try.func17, Try.ntmps17
    go_wp2_with (first
      | (go_at_call 42; refine (field_any _ _).mono ?_; rintro e w' ⟨rfl, rfl⟩; rw [HF.out])
      | (go_at_call 43; refine (one_any _ _ h1 h2).mono ?_; rintro e w2 ⟨rfl, hb2⟩; have hX := ((Blk.new w 24 #[.int .u64 (iv F), .int .u64 (iv S)]).alloc (.cells #[.int .u64 0, .int .u64 0] 24)).below hb2 (by simp; omega); have hY := (Blk.new2 w (.cells #[.int .u64 (iv F), .int .u64 (iv S)] 24) 24 #[.int .u64 0, .int .u64 0]).below hb2 (by simp); have x0 := hX.cell 0; have x1 := hX.cell 1; have y0 := hY.cell 0; have y1 := hY.cell 1; have f0 := hY.frozen 0; have f1 := hY.frozen 1; have hs2 : w.heap.size + 2 ≤ w2.heap.size := (by have := hb2.size; simpa using this); have hs2a : w.heap.size < w2.heap.size := (by omega); have hs2b : w.heap.size + 1 < w2.heap.size := (by omega); simp at x0 x1 y0 y1; have HZ := Lib.hid hY; clear hX hY))
    exact ret_map rfl rfl ((HZ.out.store2 _ _).alloc _) rfl ⟨rfl, (below_store2 ((below2 w _ _).trans (hb2.mono (by simp; omega))) (by omega) _ _).alloc (by simp; omega) _⟩
theorem pcN_le : ∀ (n x : Nat), pcN n x ≤ n
  | 0, _ => Nat.le_refl _
  | n + 1, x => by
    have := pcN_le n (x / 2)
    simp only [pcN]; omega
/-- A number as the model's integer. -/
def nv (x : Nat) : Int := (x : Int)
theorem nv_and (a b : Nat) (ha : a < 2 ^ 64) (hb : b < 2 ^ 64) : bits .and .u64 (nv a) (nv b) = nv (a &&& b) := by
  have h := bits_and (BitVec.ofNat 64 a) (BitVec.ofNat 64 b)
  unfold iv at h
  rw [BitVec.toNat_and, BitVec.toNat_ofNat, BitVec.toNat_ofNat, Nat.mod_eq_of_lt ha, Nat.mod_eq_of_lt hb] at h
  exact h
theorem nv_and_i (a : Nat) (ha : a < 2 ^ 63) : bits .and .i64 (nv a) 127 = nv (a % 128) := by
  unfold bits nv
  have e1 : BitVec.ofInt IntKind.i64.bits ((a : Nat) : Int) = BitVec.ofNat 64 a := by
    show BitVec.ofInt 64 ((a : Nat) : Int) = _
    rw [BitVec.ofInt_natCast]
  have e2 : BitVec.ofInt IntKind.i64.bits (127 : Int) = BitVec.ofNat 64 127 := rfl
  simp only [e1, e2]
  have e3 : (BitVec.ofNat 64 a &&& BitVec.ofNat 64 127).toNat = a % 128 := by
    rw [BitVec.toNat_and, BitVec.toNat_ofNat, BitVec.toNat_ofNat, Nat.mod_eq_of_lt (by omega : a < 2 ^ 64), Nat.mod_eq_of_lt (by omega : 127 < 2 ^ 64)]
    exact Nat.and_two_pow_sub_one_eq_mod a 7
  exact (congrArg (fun m : Nat => IntKind.i64.wrap (m : Int)) e3).trans (IntWalk.i64_in _ (by omega))
theorem y1_lt (x : Nat) : y1 x < 2 ^ 64 := by
  unfold y1
  have a := Nat.and_le_right (n := x / 2) (m := 0x5555555555555555)
  have b := Nat.and_le_right (n := x) (m := 0x5555555555555555)
  omega
theorem y2_lt (x : Nat) : y2 x < 2 ^ 63 := by
  unfold y2
  have a := Nat.and_le_right (n := x / 4) (m := 0x3333333333333333)
  have b := Nat.and_le_right (n := x) (m := 0x3333333333333333)
  omega
theorem y3_lt (x : Nat) : y3 x ≤ 0x0f0f0f0f0f0f0f0f := Nat.and_le_right
set_option maxHeartbeats 800000 in
theorem ones_nat (x : Nat) (hx : x < 2 ^ 64) (w : World) : Calls Try.prog 44 #[.int .u64 (nv x)] w fun e w' => e = .returned (.int .i64 (nv (pcN 64 x))) ∧ w = w' := by
  obtain ⟨p1, p2⟩ := pop_all x hx
  obtain ⟨a1, g1⟩ : ∃ a, y1 x = a := ⟨_, rfl⟩
  obtain ⟨a2, g2⟩ : ∃ a, y2 a1 = a := ⟨_, rfl⟩
  obtain ⟨a3, g3⟩ : ∃ a, y3 a2 = a := ⟨_, rfl⟩
  obtain ⟨a4, g4⟩ : ∃ a, y4 a3 = a := ⟨_, rfl⟩
  obtain ⟨a5, g5⟩ : ∃ a, y5 a4 = a := ⟨_, rfl⟩
  obtain ⟨a6, g6⟩ : ∃ a, y6 a5 = a := ⟨_, rfl⟩
  have l1 : a1 < 2 ^ 64 := g1 ▸ y1_lt x
  have l2 : a2 < 2 ^ 63 := g2 ▸ y2_lt a1
  have l3 : a3 ≤ 0x0f0f0f0f0f0f0f0f := g3 ▸ y3_lt a2
  have l4 : a4 < 2 ^ 61 := by unfold y4 at g4; omega
  have l5 : a5 < 2 ^ 62 := by unfold y5 at g5; omega
  have l6 : a6 < 2 ^ 63 := by unfold y6 at g6; omega
  rw [g1, g2, g3, g4, g5, g6] at p1
  have P1 := Lib.hid p1
  clear p1 p2
  have D1 : nv x / 2 = nv (x / 2) := by unfold nv; omega
  have A1 : bits .and .u64 (nv (x / 2)) 6148914691236517205 = nv (x / 2 &&& 6148914691236517205) := nv_and (x / 2) 6148914691236517205 (by omega) (by decide)
  have A2 : bits .and .u64 (nv x) 6148914691236517205 = nv (x &&& 6148914691236517205) := nv_and x 6148914691236517205 (by omega) (by decide)
  have S1 : IntKind.u64.wrap (nv (x / 2 &&& 6148914691236517205) + nv (x &&& 6148914691236517205)) = nv a1 := by
    unfold y1 at g1
    have e : nv (x / 2 &&& 6148914691236517205) + nv (x &&& 6148914691236517205) = nv a1 := by unfold nv; omega
    rw [e]; exact IntWalk.u64_in _ (by unfold nv; omega)
  have D3 : nv a1 / 4 = nv (a1 / 4) := by unfold nv; omega
  have A3 : bits .and .u64 (nv (a1 / 4)) 3689348814741910323 = nv (a1 / 4 &&& 3689348814741910323) := nv_and (a1 / 4) 3689348814741910323 (by omega) (by decide)
  have A4 : bits .and .u64 (nv a1) 3689348814741910323 = nv (a1 &&& 3689348814741910323) := nv_and a1 3689348814741910323 (by omega) (by decide)
  have S2 : IntKind.u64.wrap (nv (a1 / 4 &&& 3689348814741910323) + nv (a1 &&& 3689348814741910323)) = nv a2 := by
    unfold y2 at g2
    have e : nv (a1 / 4 &&& 3689348814741910323) + nv (a1 &&& 3689348814741910323) = nv a2 := by unfold nv; omega
    rw [e]; exact IntWalk.u64_in _ (by unfold nv; omega)
  have S3 : IntKind.u64.wrap (nv a2 / 16 + nv a2) = nv (a2 / 16 + a2) := by
    have e : nv a2 / 16 + nv a2 = nv (a2 / 16 + a2) := by unfold nv; omega
    rw [e]; exact IntWalk.u64_in _ (by unfold nv; omega)
  have A5 : bits .and .u64 (nv (a2 / 16 + a2)) 1085102592571150095 = nv a3 := by
    have := nv_and (a2 / 16 + a2) 1085102592571150095 (by omega) (by decide)
    unfold y3 at g3
    rw [← g3]; exact this
  have S4 : IntKind.u64.wrap (nv a3 + nv a3 / 256) = nv a4 := by
    unfold y4 at g4
    have e : nv a3 + nv a3 / 256 = nv a4 := by unfold nv; omega
    rw [e]; exact IntWalk.u64_in _ (by unfold nv; omega)
  have S5 : IntKind.u64.wrap (nv a4 + nv a4 / 65536) = nv a5 := by
    unfold y5 at g5
    have e : nv a4 + nv a4 / 65536 = nv a5 := by unfold nv; omega
    rw [e]; exact IntWalk.u64_in _ (by unfold nv; omega)
  have S6 : IntKind.u64.wrap (nv a5 + nv a5 / 4294967296) = nv a6 := by
    unfold y6 at g6
    have e : nv a5 + nv a5 / 4294967296 = nv a6 := by unfold nv; omega
    rw [e]; exact IntWalk.u64_in _ (by unfold nv; omega)
  have C1 : IntKind.i64.wrap (nv a6) = nv a6 := IntWalk.i64_in _ (by unfold nv; omega)
  have C2 := nv_and_i a6 l6
  clear g1 g2 g3 g4 g5 g6 l1 l2 l3 l4 l5 l6 hx
  go_enter Try.func44, Try.ntmps44
  go_wp2
  go_ret
  exact ⟨by rw [← P1.out]; rfl, rfl⟩
theorem ones_any (X : B64) (w : World) : Calls Try.prog 44 #[.int .u64 (iv X)] w fun e w' => e = .returned (.int .i64 (nv (pcN 64 X.toNat))) ∧ w = w' := ones_nat X.toNat X.isLt w
set_option maxHeartbeats 400000 in
theorem len_any (F S : B64) (w : World) : Calls Try.prog 18 #[.agg #[.int .u64 (iv F), .int .u64 (iv S)]] w fun e w' => e = .returned (.int .i64 (nv (lenV F S))) ∧ Below w.heap.size w w' := by
  have L1 : pcN 64 (pl F).toNat ≤ 64 := pcN_le _ _
  have L2 : pcN 64 (pl S).toNat ≤ 64 := pcN_le _ _
  have W1 : IntKind.i64.wrap (nv (pcN 64 (pl F).toNat) + nv (pcN 64 (pl S).toNat)) = nv (lenV F S) := by
    have e : nv (pcN 64 (pl F).toNat) + nv (pcN 64 (pl S).toNat) = nv (lenV F S) := by unfold nv lenV; omega
    rw [e]; exact IntWalk.i64_in _ (by unfold nv lenV; omega)
  clear L1 L2
  go_enter Try.func18, Try.ntmps18
  go_wp2_with (go_at_call 41; refine (plain_any _ _ _).mono ?_; rintro e w1 ⟨rfl, hb1⟩; have hs1 : w.heap.size < w1.heap.size := (by have := hb1.size; simp at this; omega); have hB := ((Below.refl _ w).alloc (Nat.le_refl _) (.cells #[.int .u64 (iv F), .int .u64 (iv S)] 24)).trans (hb1.mono (by simp)); clear hb1)
  go_quiet ((first | (go_at_call 44; exact quiet_left (ones_any _ _))))
  go_wp2
  go_ret
  exact ⟨rfl, below_drewN (hB.alloc (by omega) _) _⟩
end Go.Proofs.Ytieloocmkgficaa
