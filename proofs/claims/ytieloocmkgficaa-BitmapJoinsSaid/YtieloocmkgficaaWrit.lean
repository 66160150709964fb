/-
  written, by its contract.
-/
import Derived.Test.YtieloocmkgficaaRead
import Derived.OwnWalk
namespace Go.Proofs.Ytieloocmkgficaa
open Go.RowKit
set_option linter.unusedVariables false
set_option linter.unusedSimpArgs false
theorem conv_cells (w : World) (g n c : Nat) (xs : List Int) (hl : xs.length = n) (h : ∀ i, i < n → w.cell? ⟨g, i, none⟩ = some (.int .u8 (xs.getD i 0))) :
    (convert 80 9 (.slice (some ⟨g, 0, none⟩) n c)).run Try.prog w = .ok (.string (strOfNums xs)) w :=
  run_convert_bytes_arg (P := Try.prog) w 80 5 Try.underlying80 Try.underlying5 g 0 n c xs hl (fun i hi => by rw [Nat.zero_add]; exact h i hi) 9 Try.underlying9
theorem conv_own {w : World} {B n : Nat} {v : Value} {xs : List Int} (h : w.ownsRow B 5 1 v n (xs.map (Value.int .u8))) :
    (convert 80 9 v).run Try.prog w = .ok (.string (strOfNums xs)) w := by
  have hl : xs.length = n := by have := h.1; simpa using this
  rcases h.2 with ⟨rfl, h0⟩ | ⟨g, cap, cur, rfl, hb, hg, hn, hm, hs, ht⟩
  · have e : xs = [] := List.length_eq_zero_iff.1 (by omega)
    subst e
    exact run_convert_bytes_nil (P := Try.prog) w 80 5 Try.underlying80 Try.underlying5 0 0 9 Try.underlying9
  · refine conv_cells w g n cap xs hl fun i hi => ?_
    have hc := h.cells (g := g) rfl i (.int .u8 (xs.getD i 0)) (by simp [List.getElem?_eq_getElem (show i < xs.length by omega)])
    have hadd : (⟨g, 0, none⟩ : Addr).add i = ⟨g, i, none⟩ := by unfold Addr.add; split <;> simp_all
    rwa [hadd] at hc
theorem u8w (y : Int) : IntKind.u8.wrap y = y % 256 := rfl
theorem blk_conv {w : World} {g : Nat} {t : TypeId} {b0 b1 b2 b3 b4 b5 b6 b7 : Int} (h : Blk w g t #[.int .u8 b0, .int .u8 b1, .int .u8 b2, .int .u8 b3, .int .u8 b4, .int .u8 b5, .int .u8 b6, .int .u8 b7]) (c : Nat) :
    (convert 80 9 (.slice (some ⟨g, 0, none⟩) 8 c)).run Try.prog w = .ok (.string (strOfNums [b0, b1, b2, b3, b4, b5, b6, b7])) w :=
  conv_cells w g 8 c [b0, b1, b2, b3, b4, b5, b6, b7] rfl fun i hi => by
    rw [h.cell i]
    have hi2 : i = 0 ∨ i = 1 ∨ i = 2 ∨ i = 3 ∨ i = 4 ∨ i = 5 ∨ i = 6 ∨ i = 7 := by omega
    rcases hi2 with rfl | rfl | rfl | rfl | rfl | rfl | rfl | rfl <;> rfl
set_option maxHeartbeats 1600000 in
theorem written_eight (x : Int) (w : World) (h0 : 0 ≤ x) (h1 : x < 18446744073709551616) :
    Calls Try.prog 48 #[.int .i64 1, .int .u64 x] w fun e w' => e = .returned (.string (strOfNums (bys x))) ∧ Below w.heap.size w w' := by
  have W0 : IntKind.u8.wrap (x / 72057594037927936) = x / 72057594037927936 % 256 := rfl
  have W1 : IntKind.u8.wrap (x / 281474976710656) = x / 281474976710656 % 256 := rfl
  have W2 : IntKind.u8.wrap (x / 1099511627776) = x / 1099511627776 % 256 := rfl
  have W3 : IntKind.u8.wrap (x / 4294967296) = x / 4294967296 % 256 := rfl
  have W4 : IntKind.u8.wrap (x / 16777216) = x / 16777216 % 256 := rfl
  have W5 : IntKind.u8.wrap (x / 65536) = x / 65536 % 256 := rfl
  have W6 : IntKind.u8.wrap (x / 256) = x / 256 % 256 := rfl
  have W7 : IntKind.u8.wrap x = x % 256 := rfl
  have hcv := blk_conv (Blk.new w 79 #[.int .u8 (x / 72057594037927936 % 256), .int .u8 (x / 281474976710656 % 256), .int .u8 (x / 1099511627776 % 256), .int .u8 (x / 4294967296 % 256), .int .u8 (x / 16777216 % 256), .int .u8 (x / 65536 % 256), .int .u8 (x / 256 % 256), .int .u8 (x % 256)]) 8
  go_enter Try.func48, Try.ntmps48
  go_wp2
  refine wp_loop_rounds 9 ?_
  iterate 8
    rw [rounds_succ]
    go_wp2
  rw [rounds_succ]
  go_wp2
  go_ret
  exact ⟨rfl, (Below.refl _ _).alloc (Nat.le_refl _) _⟩
theorem Try.info5 : (Try.prog.info? 5).map (fun i => (i.zero, i.size, i.bytes)) = some (some (.int .u8 0), 1, 1) := by kernel_rfl
theorem and15 (b : Int) (h0 : 0 ≤ b) (h1 : b < 256) : bits .and .u8 b 15 = b % 16 := by
  obtain ⟨n, rfl⟩ := Int.eq_ofNat_of_zero_le h0
  have h : ∀ m : Fin 256, bits .and .u8 (m.val : Int) 15 = (m.val : Int) % 16 := by decide +kernel
  exact h ⟨n, by omega⟩
/-- The eight bytes as a value. -/
def arr8 (bs : List Int) : Value := .agg (bs.map (Value.int .u8)).toArray
theorem chs_take (f : Int) (bs : List Int) (k : Nat) (b : Int) (h : bs[k]? = some b) : chs f (bs.take (k + 1)) = chs f (bs.take k) ++ [sgn f (b / 16), sgn f (b % 16)] := by
  have ha : ∀ xs ys : List Int, chs f (xs ++ ys) = chs f xs ++ chs f ys := by
    intro xs ys
    induction xs with
    | nil => rfl
    | cons x xs ih => simp only [List.cons_append, chs, ih]
  rw [List.take_add_one, h, ha]; rfl
theorem chs_len (f : Int) : ∀ bs : List Int, (chs f bs).length = 2 * bs.length
  | [] => rfl
  | b :: l => by simp only [chs, List.length_cons, chs_len f l]; omega
theorem pair_cells (w : World) (a b : Value) (t : TypeId) : ∀ (j : Nat) (u : Value), [a, b][j]? = some u → (w.alloc (.cells #[a, b] t)).cell? ((⟨w.heap.size, 0, none⟩ : Addr).add j) = some u := by
  intro j u hj
  have hadd : (⟨w.heap.size, 0, none⟩ : Addr).add j = ⟨w.heap.size, j, none⟩ := by unfold Addr.add; split <;> simp_all
  rw [hadd, (Blk.new w t #[a, b]).cell j]
  simpa using hj
theorem pair_one (a b : Int) : ∀ u ∈ [Value.int .u8 a, Value.int .u8 b], u.oneCell' = true := by
  intro u hu
  simp only [List.mem_cons, List.not_mem_nil, or_false] at hu
  rcases hu with rfl | rfl <;> rfl
theorem own_lt {w : World} {B e sz n : Nat} {v : Value} {xs : List Value} (h : w.ownsRow B e sz v n xs) : ∀ k, v.ownBlock = some k → B ≤ k := fun k hk => (h.lt k hk).1
set_option maxHeartbeats 1000000 in
theorem written_let (f x : Int) (w : World) (hf : f ≠ 1) (h0 : 0 ≤ x) (h1 : x < 18446744073709551616) :
    Calls Try.prog 48 #[.int .i64 f, .int .u64 x] w fun e w' => e = .returned (.string (strOfNums (chs f (bys x)))) ∧ Below w.heap.size w w' := by
  obtain ⟨b0, q0⟩ : ∃ b, IntKind.u8.wrap (x / 72057594037927936) = b := ⟨_, rfl⟩
  have r0 : 0 ≤ b0 ∧ b0 < 256 := by rw [← q0, u8w]; omega
  have A0 := and15 b0 r0.1 r0.2
  obtain ⟨b1, q1⟩ : ∃ b, IntKind.u8.wrap (x / 281474976710656) = b := ⟨_, rfl⟩
  have r1 : 0 ≤ b1 ∧ b1 < 256 := by rw [← q1, u8w]; omega
  have A1 := and15 b1 r1.1 r1.2
  obtain ⟨b2, q2⟩ : ∃ b, IntKind.u8.wrap (x / 1099511627776) = b := ⟨_, rfl⟩
  have r2 : 0 ≤ b2 ∧ b2 < 256 := by rw [← q2, u8w]; omega
  have A2 := and15 b2 r2.1 r2.2
  obtain ⟨b3, q3⟩ : ∃ b, IntKind.u8.wrap (x / 4294967296) = b := ⟨_, rfl⟩
  have r3 : 0 ≤ b3 ∧ b3 < 256 := by rw [← q3, u8w]; omega
  have A3 := and15 b3 r3.1 r3.2
  obtain ⟨b4, q4⟩ : ∃ b, IntKind.u8.wrap (x / 16777216) = b := ⟨_, rfl⟩
  have r4 : 0 ≤ b4 ∧ b4 < 256 := by rw [← q4, u8w]; omega
  have A4 := and15 b4 r4.1 r4.2
  obtain ⟨b5, q5⟩ : ∃ b, IntKind.u8.wrap (x / 65536) = b := ⟨_, rfl⟩
  have r5 : 0 ≤ b5 ∧ b5 < 256 := by rw [← q5, u8w]; omega
  have A5 := and15 b5 r5.1 r5.2
  obtain ⟨b6, q6⟩ : ∃ b, IntKind.u8.wrap (x / 256) = b := ⟨_, rfl⟩
  have r6 : 0 ≤ b6 ∧ b6 < 256 := by rw [← q6, u8w]; omega
  have A6 := and15 b6 r6.1 r6.2
  obtain ⟨b7, q7⟩ : ∃ b, IntKind.u8.wrap x = b := ⟨_, rfl⟩
  have r7 : 0 ≤ b7 ∧ b7 < 256 := by rw [← q7, u8w]; omega
  have A7 := and15 b7 r7.1 r7.2
  have hB : bys x = [b0, b1, b2, b3, b4, b5, b6, b7] := by rw [← q0, ← q1, ← q2, ← q3, ← q4, ← q5, ← q6, ← q7]; rfl
  rw [hB]
  have e1 : (f == 1) = false := by rw [beq_eq_false_iff_ne]; exact hf
  obtain ⟨i0, hi, hz0, hz1, hz2⟩ := info_parts Try.info5
  clear hB hf
  obtain ⟨l0, u0⟩ := r0
  obtain ⟨l1, u1⟩ := r1
  obtain ⟨l2, u2⟩ := r2
  obtain ⟨l3, u3⟩ := r3
  obtain ⟨l4, u4⟩ := r4
  obtain ⟨l5, u5⟩ := r5
  obtain ⟨l6, u6⟩ := r6
  obtain ⟨l7, u7⟩ := r7
  have ix0 : ∀ w, (Instr.index 79 (.agg #[.int .u8 b0, .int .u8 b1, .int .u8 b2, .int .u8 b3, .int .u8 b4, .int .u8 b5, .int .u8 b6, .int .u8 b7]) (.int .i64 0)).run Try.prog w = .ok (.int .u8 b0) w := fun _ => by kernel_rfl
  have ix1 : ∀ w, (Instr.index 79 (.agg #[.int .u8 b0, .int .u8 b1, .int .u8 b2, .int .u8 b3, .int .u8 b4, .int .u8 b5, .int .u8 b6, .int .u8 b7]) (.int .i64 1)).run Try.prog w = .ok (.int .u8 b1) w := fun _ => by kernel_rfl
  have ix2 : ∀ w, (Instr.index 79 (.agg #[.int .u8 b0, .int .u8 b1, .int .u8 b2, .int .u8 b3, .int .u8 b4, .int .u8 b5, .int .u8 b6, .int .u8 b7]) (.int .i64 2)).run Try.prog w = .ok (.int .u8 b2) w := fun _ => by kernel_rfl
  have ix3 : ∀ w, (Instr.index 79 (.agg #[.int .u8 b0, .int .u8 b1, .int .u8 b2, .int .u8 b3, .int .u8 b4, .int .u8 b5, .int .u8 b6, .int .u8 b7]) (.int .i64 3)).run Try.prog w = .ok (.int .u8 b3) w := fun _ => by kernel_rfl
  have ix4 : ∀ w, (Instr.index 79 (.agg #[.int .u8 b0, .int .u8 b1, .int .u8 b2, .int .u8 b3, .int .u8 b4, .int .u8 b5, .int .u8 b6, .int .u8 b7]) (.int .i64 4)).run Try.prog w = .ok (.int .u8 b4) w := fun _ => by kernel_rfl
  have ix5 : ∀ w, (Instr.index 79 (.agg #[.int .u8 b0, .int .u8 b1, .int .u8 b2, .int .u8 b3, .int .u8 b4, .int .u8 b5, .int .u8 b6, .int .u8 b7]) (.int .i64 5)).run Try.prog w = .ok (.int .u8 b5) w := fun _ => by kernel_rfl
  have ix6 : ∀ w, (Instr.index 79 (.agg #[.int .u8 b0, .int .u8 b1, .int .u8 b2, .int .u8 b3, .int .u8 b4, .int .u8 b5, .int .u8 b6, .int .u8 b7]) (.int .i64 6)).run Try.prog w = .ok (.int .u8 b6) w := fun _ => by kernel_rfl
  have ix7 : ∀ w, (Instr.index 79 (.agg #[.int .u8 b0, .int .u8 b1, .int .u8 b2, .int .u8 b3, .int .u8 b4, .int .u8 b5, .int .u8 b6, .int .u8 b7]) (.int .i64 7)).run Try.prog w = .ok (.int .u8 b7) w := fun _ => by kernel_rfl
  go_enter Try.func48, Try.ntmps48
  go_wp2
  refine wp_loop_rounds 9 ?_
  iterate 8
    rw [rounds_succ]
    go_wp2
  rw [rounds_succ]
  go_wp2
  clear q0
  clear q1
  clear q2
  clear q3
  clear q4
  clear q5
  clear q6
  clear q7
  go_loopw [7, 27] (fun v i wr => ∃ k : Nat, k ≤ 8 ∧ i = .int .i64 k ∧ wr.ownsRow w.heap.size 5 1 v (2 * k) ((chs f ([b0, b1, b2, b3, b4, b5, b6, b7].take k)).map (Value.int .u8)) ∧ Below w.heap.size w wr) (fun _ i _ => 8 - (intOf i).toNat)
  case atStart => exact ⟨0, by omega, rfl, World.ownsRow_nil _ _ _ _, (Below.refl _ _).alloc (Nat.le_refl _) _⟩
  case round =>
    obtain ⟨k, hk, rfl, hown, hb⟩ := hrel
    have hsz := hb.size
    have hk9 : k = 0 ∨ k = 1 ∨ k = 2 ∨ k = 3 ∨ k = 4 ∨ k = 5 ∨ k = 6 ∨ k = 7 ∨ k = 8 := by omega
    rcases hk9 with rfl | rfl | rfl | rfl | rfl | rfl | rfl | rfl | rfl
    · have HR2 := Lib.hid (chs_take f [b0, b1, b2, b3, b4, b5, b6, b7] 0 b0 rfl)
      clear hk
      go_wp2_with (first
        | (go_at_call 55; refine (sign_any _ _ _ (by omega) (by omega)).mono ?_; rintro e w' ⟨rfl, rfl⟩)
        | (at_builtin; refine wpList_append_own _ rfl _ _ 80 rfl w.heap.size 5 i0 (.int .u8 0) 1 1 Try.underlying80 hi hz0 hz1 hz2 rfl (by decide) _ _ _ rfl (hown.alloc _) ⟨wr.heap.size, 0, none⟩ 2 2 [.int .u8 (sgn f (b0 / 16)), .int .u8 (sgn f (b0 % 16))] rfl rfl (pair_cells _ _ _ _) (pair_one _ _) (by unfold maxLen; omega) (by omega) (by simp; omega) ?_; intro v' w1 hown' hgrow _; have hb' := (hb.alloc hsz (.cells #[.int .u8 (sgn f (b0 / 16)), .int .u8 (sgn f (b0 % 16))] 5)).grown hgrow (by simp; omega) (own_lt hown); have ho2 := Lib.hid hown'; clear hown hown' hgrow hb))
      go_roundw
      case rel => exact ⟨1, by omega, by go_num, by rw [HR2.out, List.map_append]; exact ho2.out, hb'⟩
      case measure => simp [intOf]
    · have HR2 := Lib.hid (chs_take f [b0, b1, b2, b3, b4, b5, b6, b7] 1 b1 rfl)
      clear hk
      go_wp2_with (first
        | (go_at_call 55; refine (sign_any _ _ _ (by omega) (by omega)).mono ?_; rintro e w' ⟨rfl, rfl⟩)
        | (at_builtin; refine wpList_append_own _ rfl _ _ 80 rfl w.heap.size 5 i0 (.int .u8 0) 1 1 Try.underlying80 hi hz0 hz1 hz2 rfl (by decide) _ _ _ rfl (hown.alloc _) ⟨wr.heap.size, 0, none⟩ 2 2 [.int .u8 (sgn f (b1 / 16)), .int .u8 (sgn f (b1 % 16))] rfl rfl (pair_cells _ _ _ _) (pair_one _ _) (by unfold maxLen; omega) (by omega) (by simp; omega) ?_; intro v' w1 hown' hgrow _; have hb' := (hb.alloc hsz (.cells #[.int .u8 (sgn f (b1 / 16)), .int .u8 (sgn f (b1 % 16))] 5)).grown hgrow (by simp; omega) (own_lt hown); have ho2 := Lib.hid hown'; clear hown hown' hgrow hb))
      go_roundw
      case rel => exact ⟨2, by omega, by go_num, by rw [HR2.out, List.map_append]; exact ho2.out, hb'⟩
      case measure => simp [intOf]
    · have HR2 := Lib.hid (chs_take f [b0, b1, b2, b3, b4, b5, b6, b7] 2 b2 rfl)
      clear hk
      go_wp2_with (first
        | (go_at_call 55; refine (sign_any _ _ _ (by omega) (by omega)).mono ?_; rintro e w' ⟨rfl, rfl⟩)
        | (at_builtin; refine wpList_append_own _ rfl _ _ 80 rfl w.heap.size 5 i0 (.int .u8 0) 1 1 Try.underlying80 hi hz0 hz1 hz2 rfl (by decide) _ _ _ rfl (hown.alloc _) ⟨wr.heap.size, 0, none⟩ 2 2 [.int .u8 (sgn f (b2 / 16)), .int .u8 (sgn f (b2 % 16))] rfl rfl (pair_cells _ _ _ _) (pair_one _ _) (by unfold maxLen; omega) (by omega) (by simp; omega) ?_; intro v' w1 hown' hgrow _; have hb' := (hb.alloc hsz (.cells #[.int .u8 (sgn f (b2 / 16)), .int .u8 (sgn f (b2 % 16))] 5)).grown hgrow (by simp; omega) (own_lt hown); have ho2 := Lib.hid hown'; clear hown hown' hgrow hb))
      go_roundw
      case rel => exact ⟨3, by omega, by go_num, by rw [HR2.out, List.map_append]; exact ho2.out, hb'⟩
      case measure => simp [intOf]
    · have HR2 := Lib.hid (chs_take f [b0, b1, b2, b3, b4, b5, b6, b7] 3 b3 rfl)
      clear hk
      go_wp2_with (first
        | (go_at_call 55; refine (sign_any _ _ _ (by omega) (by omega)).mono ?_; rintro e w' ⟨rfl, rfl⟩)
        | (at_builtin; refine wpList_append_own _ rfl _ _ 80 rfl w.heap.size 5 i0 (.int .u8 0) 1 1 Try.underlying80 hi hz0 hz1 hz2 rfl (by decide) _ _ _ rfl (hown.alloc _) ⟨wr.heap.size, 0, none⟩ 2 2 [.int .u8 (sgn f (b3 / 16)), .int .u8 (sgn f (b3 % 16))] rfl rfl (pair_cells _ _ _ _) (pair_one _ _) (by unfold maxLen; omega) (by omega) (by simp; omega) ?_; intro v' w1 hown' hgrow _; have hb' := (hb.alloc hsz (.cells #[.int .u8 (sgn f (b3 / 16)), .int .u8 (sgn f (b3 % 16))] 5)).grown hgrow (by simp; omega) (own_lt hown); have ho2 := Lib.hid hown'; clear hown hown' hgrow hb))
      go_roundw
      case rel => exact ⟨4, by omega, by go_num, by rw [HR2.out, List.map_append]; exact ho2.out, hb'⟩
      case measure => simp [intOf]
    · have HR2 := Lib.hid (chs_take f [b0, b1, b2, b3, b4, b5, b6, b7] 4 b4 rfl)
      clear hk
      go_wp2_with (first
        | (go_at_call 55; refine (sign_any _ _ _ (by omega) (by omega)).mono ?_; rintro e w' ⟨rfl, rfl⟩)
        | (at_builtin; refine wpList_append_own _ rfl _ _ 80 rfl w.heap.size 5 i0 (.int .u8 0) 1 1 Try.underlying80 hi hz0 hz1 hz2 rfl (by decide) _ _ _ rfl (hown.alloc _) ⟨wr.heap.size, 0, none⟩ 2 2 [.int .u8 (sgn f (b4 / 16)), .int .u8 (sgn f (b4 % 16))] rfl rfl (pair_cells _ _ _ _) (pair_one _ _) (by unfold maxLen; omega) (by omega) (by simp; omega) ?_; intro v' w1 hown' hgrow _; have hb' := (hb.alloc hsz (.cells #[.int .u8 (sgn f (b4 / 16)), .int .u8 (sgn f (b4 % 16))] 5)).grown hgrow (by simp; omega) (own_lt hown); have ho2 := Lib.hid hown'; clear hown hown' hgrow hb))
      go_roundw
      case rel => exact ⟨5, by omega, by go_num, by rw [HR2.out, List.map_append]; exact ho2.out, hb'⟩
      case measure => simp [intOf]
    · have HR2 := Lib.hid (chs_take f [b0, b1, b2, b3, b4, b5, b6, b7] 5 b5 rfl)
      clear hk
      go_wp2_with (first
        | (go_at_call 55; refine (sign_any _ _ _ (by omega) (by omega)).mono ?_; rintro e w' ⟨rfl, rfl⟩)
        | (at_builtin; refine wpList_append_own _ rfl _ _ 80 rfl w.heap.size 5 i0 (.int .u8 0) 1 1 Try.underlying80 hi hz0 hz1 hz2 rfl (by decide) _ _ _ rfl (hown.alloc _) ⟨wr.heap.size, 0, none⟩ 2 2 [.int .u8 (sgn f (b5 / 16)), .int .u8 (sgn f (b5 % 16))] rfl rfl (pair_cells _ _ _ _) (pair_one _ _) (by unfold maxLen; omega) (by omega) (by simp; omega) ?_; intro v' w1 hown' hgrow _; have hb' := (hb.alloc hsz (.cells #[.int .u8 (sgn f (b5 / 16)), .int .u8 (sgn f (b5 % 16))] 5)).grown hgrow (by simp; omega) (own_lt hown); have ho2 := Lib.hid hown'; clear hown hown' hgrow hb))
      go_roundw
      case rel => exact ⟨6, by omega, by go_num, by rw [HR2.out, List.map_append]; exact ho2.out, hb'⟩
      case measure => simp [intOf]
    · have HR2 := Lib.hid (chs_take f [b0, b1, b2, b3, b4, b5, b6, b7] 6 b6 rfl)
      clear hk
      go_wp2_with (first
        | (go_at_call 55; refine (sign_any _ _ _ (by omega) (by omega)).mono ?_; rintro e w' ⟨rfl, rfl⟩)
        | (at_builtin; refine wpList_append_own _ rfl _ _ 80 rfl w.heap.size 5 i0 (.int .u8 0) 1 1 Try.underlying80 hi hz0 hz1 hz2 rfl (by decide) _ _ _ rfl (hown.alloc _) ⟨wr.heap.size, 0, none⟩ 2 2 [.int .u8 (sgn f (b6 / 16)), .int .u8 (sgn f (b6 % 16))] rfl rfl (pair_cells _ _ _ _) (pair_one _ _) (by unfold maxLen; omega) (by omega) (by simp; omega) ?_; intro v' w1 hown' hgrow _; have hb' := (hb.alloc hsz (.cells #[.int .u8 (sgn f (b6 / 16)), .int .u8 (sgn f (b6 % 16))] 5)).grown hgrow (by simp; omega) (own_lt hown); have ho2 := Lib.hid hown'; clear hown hown' hgrow hb))
      go_roundw
      case rel => exact ⟨7, by omega, by go_num, by rw [HR2.out, List.map_append]; exact ho2.out, hb'⟩
      case measure => simp [intOf]
    · have HR2 := Lib.hid (chs_take f [b0, b1, b2, b3, b4, b5, b6, b7] 7 b7 rfl)
      clear hk
      go_wp2_with (first
        | (go_at_call 55; refine (sign_any _ _ _ (by omega) (by omega)).mono ?_; rintro e w' ⟨rfl, rfl⟩)
        | (at_builtin; refine wpList_append_own _ rfl _ _ 80 rfl w.heap.size 5 i0 (.int .u8 0) 1 1 Try.underlying80 hi hz0 hz1 hz2 rfl (by decide) _ _ _ rfl (hown.alloc _) ⟨wr.heap.size, 0, none⟩ 2 2 [.int .u8 (sgn f (b7 / 16)), .int .u8 (sgn f (b7 % 16))] rfl rfl (pair_cells _ _ _ _) (pair_one _ _) (by unfold maxLen; omega) (by omega) (by simp; omega) ?_; intro v' w1 hown' hgrow _; have hb' := (hb.alloc hsz (.cells #[.int .u8 (sgn f (b7 / 16)), .int .u8 (sgn f (b7 % 16))] 5)).grown hgrow (by simp; omega) (own_lt hown); have ho2 := Lib.hid hown'; clear hown hown' hgrow hb))
      go_roundw
      case rel => exact ⟨8, by omega, by go_num, by rw [HR2.out, List.map_append]; exact ho2.out, hb'⟩
      case measure => simp [intOf]
    · have hcv := conv_own hown
      have HO := Lib.hid hown
      clear hown hk
      go_wp2
      go_ret
      exact ⟨rfl, hb⟩
theorem written_any (f x : Int) (w : World) (h0 : 0 ≤ x) (h1 : x < 18446744073709551616) :
    Calls Try.prog 48 #[.int .i64 f, .int .u64 x] w fun e w' => e = .returned (.string (writtenV f x)) ∧ Below w.heap.size w w' := by
  unfold writtenV numsOf
  by_cases hf : f = 1
  · subst hf; rw [if_pos rfl]; exact written_eight x w h0 h1
  · rw [if_neg hf]; exact written_let f x w hf h0 h1
end Go.Proofs.Ytieloocmkgficaa
