/-
  The document's character, Known, half, each by its contract.
-/
import Derived.Test.YtieloocmkgficaaAsksP
namespace Go.Proofs.Ytieloocmkgficaa
open Go.RowKit
set_option linter.unusedVariables false
set_option linter.unusedSimpArgs false
def knownB (enc : Int) : Bool := formV enc != 0
theorem known_any (enc : Int) (w : World) : Calls Try.prog 49 #[.int .i64 enc] w fun e w' => e = .returned (.bool (knownB enc)) ∧ w = w' := by
  unfold knownB formV
  by_cases h5 : enc = 5
  · subst h5
    go_enter Try.func49, Try.ntmps49
    go_wp2
    go_ret
    exact ⟨rfl, rfl⟩
  by_cases h1 : enc = 1
  · subst h1
    go_enter Try.func49, Try.ntmps49
    go_wp2
    go_ret
    exact ⟨rfl, rfl⟩
  by_cases h4 : enc = 4
  · subst h4
    go_enter Try.func49, Try.ntmps49
    go_wp2
    go_ret
    exact ⟨rfl, rfl⟩
  · rw [if_neg h5, if_neg h1, if_neg h4]
    have e5 : (enc == 5) = false := by rw [beq_eq_false_iff_ne]; exact h5
    have e1 : (enc == 1) = false := by rw [beq_eq_false_iff_ne]; exact h1
    have e4 : (enc == 4) = false := by rw [beq_eq_false_iff_ne]; exact h4
    clear h1 h4 h5
    go_enter Try.func49, Try.ntmps49
    go_wp2
    go_ret
    exact ⟨rfl, rfl⟩
def fOf (enc : Int) : Int := if enc = 1 then 2 else 3
theorem char_any (enc n : Int) (w : World) (h0 : 0 ≤ n) (h1 : n < 16) : Calls Try.prog 56 #[.int .i64 enc, .int .i64 n] w fun e w' => e = .returned (.int .u8 (sgn (fOf enc) n)) ∧ w = w' := by
  unfold fOf
  by_cases he : enc = 1
  · subst he
    rw [if_pos rfl]
    have hn : n = 0 ∨ n = 1 ∨ n = 2 ∨ n = 3 ∨ n = 4 ∨ n = 5 ∨ n = 6 ∨ n = 7 ∨ n = 8 ∨ n = 9 ∨ n = 10 ∨ n = 11 ∨ n = 12 ∨ n = 13 ∨ n = 14 ∨ n = 15 := by omega
    clear h0 h1
    rcases hn with rfl | rfl | rfl | rfl | rfl | rfl | rfl | rfl | rfl | rfl | rfl | rfl | rfl | rfl | rfl | rfl
    all_goals
      go_enter Try.func56, Try.ntmps56
      go_wp2
      go_ret
      exact ⟨rfl, rfl⟩
  · rw [if_neg he]
    have e1 : (enc == 1) = false := by rw [beq_eq_false_iff_ne]; exact he
    clear he
    unfold sgn
    rw [if_pos rfl]
    by_cases hn : n < 10
    · rw [if_pos hn]
      have W1 : IntKind.u8.wrap (240 + n) = 240 + n := IntWalk.u8_in _ (by omega)
      go_enter Try.func56, Try.ntmps56
      go_wp2
      go_ret
      exact ⟨rfl, rfl⟩
    · rw [if_neg hn]
      have W1 : IntKind.u8.wrap (193 + n - 10) = 183 + n := by rw [show 193 + n - 10 = 183 + n by omega]; exact IntWalk.u8_in _ (by omega)
      have dn : decide (n < 10) = false := decide_eq_false hn
      go_enter Try.func56, Try.ntmps56
      go_wp2
      go_ret
      exact ⟨rfl, rfl⟩
/-- A chunk of truths, as it is written. -/
def chr (f : Int) (v : Int) : Int := if f = 1 then v else sgn f v
def halfL (f : Int) (r : List Bool) (o s : Nat) : Nat → List Int
  | 0 => []
  | j + 1 => halfL f r o s j ++ [chr f (nv (hN r (o + s * j) s))]
theorem halfL_len (f : Int) (r : List Bool) (o s : Nat) : ∀ j, (halfL f r o s j).length = j
  | 0 => rfl
  | j + 1 => by simp [halfL, halfL_len f r o s j]
def halfS (f : Int) (r : List Bool) (o s j : Nat) : ByteArray := strOfNums (halfL f r o s j)
theorem halfS_size (f : Int) (r : List Bool) (o s j : Nat) : (halfS f r o s j).size = j := by unfold halfS; rw [son_size, halfL_len]
theorem halfS_succ (f : Int) (r : List Bool) (o s j : Nat) : halfS f r o s j ++ strOfNums [chr f (nv (hN r (o + s * j) s))] = halfS f r o s (j + 1) := by unfold halfS; rw [son_append]; rfl
set_option maxHeartbeats 2000000 in
theorem half_eight (r : List Bool) (hr : r.length = 129) (ob : Nat) (fr : Int) (hfr : fr = (ob : Int) + 1) (ho : ob ≤ 64) (w : World) :
    Calls Try.prog 50 #[.agg (rowA r), .int .i64 5, .int .i64 fr] w fun e w' => e = .returned (.string (halfS 1 r ob 8 8)) ∧ Below w.heap.size w w' := by
  obtain ⟨c, hc⟩ : ∃ c, rowA r = c := ⟨_, rfl⟩
  have HG : Hid (∀ k, k < 129 → c[k]? = some (.bool (r.getD k false))) := by
    show ∀ k, _
    intro k hk; rw [← hc]; exact rowA_get r k (by omega)
  rw [hc]
  clear hc hr
  have HFR := Lib.hid hfr
  have fr0 : 1 ≤ fr := by omega
  have fr1 : fr ≤ 65 := by omega
  have HO := Lib.hid ho
  clear hfr ho
  go_enter Try.func50, Try.ntmps50
  go_wp2
  go_loopw [7, 9] (fun s k wr => ∃ (j : Nat), j ≤ 8 ∧ k = .int .i64 (fr + 8 * (j : Int)) ∧ s = .string (halfS 1 r ob 8 j) ∧ Blk wr w.heap.size 40 c ∧ Below w.heap.size w wr) (fun _ k _ => (fr + 64 - intOf k).toNat)
  case atStart => exact ⟨0, by omega, by simp, rfl, Blk.new w 40 c, (Below.refl _ _).alloc (Nat.le_refl _) _⟩
  case round =>
    obtain ⟨j, hj, rfl, rfl, hX, hb⟩ := hrel
    have hsz : (halfS 1 r ob 8 j).size = j := halfS_size _ _ _ _ _
    by_cases hlt : j < 8
    · obtain ⟨k, hk⟩ : ∃ k, fr + 8 * (j : Int) = k := ⟨_, rfl⟩
      have k0 : 1 ≤ k := by omega
      have k1 : k < fr + 64 := by omega
      have HK := Lib.hid hk
      rw [hk]
      have hk2 : Hid (k = ((ob + 8 * j : Nat) : Int) + 1) := by show _ = _; have := HFR.out; omega
      have kM : k ≤ 121 := by have := hk2.out; have := HO.out; omega
      obtain ⟨st, hst⟩ : ∃ st, halfS 1 r ob 8 j = st := ⟨_, rfl⟩
      have Hst := Lib.hid hst
      rw [hst] at hsz ⊢
      clear hk hst
      have hb0 := hb
      go_wp2
      go_loop [10, 11] (fun n i => ∃ (m : Nat), m ≤ 8 ∧ i = .int .i64 (k + (m : Int)) ∧ n = .int .i64 (nv (hN r (ob + 8 * j) m))) (fun _ i => (k + 8 - intOf i).toNat)
      case atStart => exact ⟨0, by omega, by simp, rfl⟩
      case round =>
        obtain ⟨m, hm, rfl, rfl⟩ := hrel
        by_cases hml : m < 8
        · have bd0 : 0 ≤ k + (m : Int) := by omega
          have bd1 : k + (m : Int) < 129 := by omega
          have g1 := hN_lt r (ob + 8 * j) m
          have p : 2 ^ m ≤ 2 ^ 7 := Nat.pow_le_pow_right (by omega) (by omega)
          obtain ⟨a, ha⟩ : ∃ a, hN r (ob + 8 * j) m = a := ⟨_, rfl⟩
          rw [ha] at g1 ⊢
          have W1 : IntKind.i64.wrap (2 * nv a) = nv (2 * a) := by
            rw [show 2 * nv a = nv (2 * a) by unfold nv; omega]; exact IntWalk.i64_in _ (by unfold nv; omega)
          have W2 : IntKind.i64.wrap (nv (2 * a) + 1) = nv (2 * a + 1) := by
            rw [show nv (2 * a) + 1 = nv (2 * a + 1) by unfold nv; omega]; exact IntWalk.i64_in _ (by unfold nv; omega)
          have R1 : Hid (hN r (ob + 8 * j) (m + 1) = 2 * a + (r.getD (k + (m : Int)).toNat false).toNat) := by
            show _ = _
            simp only [hN]
            rw [ha, show (k + (m : Int)).toNat = ob + 8 * j + m + 1 by have := hk2.out; omega]
          have y0 := (hX.cell (k + (m : Int)).toNat).trans (HG.out _ (by have := hk2.out; have := HO.out; omega))
          obtain ⟨v1, e1⟩ : ∃ v, r.getD (k + (m : Int)).toNat false = v := ⟨_, rfl⟩
          rw [e1] at y0 R1
          clear e1 ha g1 p
          cases v1
          all_goals
            go_wp2
            go_round
            case rel => exact ⟨m + 1, by omega, by go_num, by rw [R1.out]; rfl⟩
            case measure => simp [intOf]; omega
        · have hm2 : m = 8 := by omega
          subst hm2
          have g1 := hN_lt r (ob + 8 * j) 8
          obtain ⟨a, ha⟩ : ∃ a, hN r (ob + 8 * j) 8 = a := ⟨_, rfl⟩
          rw [ha] at g1 ⊢
          have nd : nv a = (a : Int) := rfl
          have n0 : 0 ≤ nv a := by unfold nv; omega
          have n1 : nv a < 256 := by unfold nv; omega
          have W3 : IntKind.u8.wrap (nv a) = nv a := IntWalk.u8_in _ (by unfold nv; omega)
          have N0 := Lib.hid n0
          have N1 := Lib.hid n1
          have HS : Hid (st ++ strOfNums [chr 1 (nv a)] = halfS 1 r ob 8 (j + 1)) := by
            show _ = _
            rw [← Hst.out, ← ha]; exact halfS_succ _ _ _ _ _
          clear nd n0 n1 ha g1
          have hone : (strOfNums [chr 1 (nv a)]).size = 1 := rfl
          have hcv := conv_cells (wr.alloc (.cells #[.int .u8 (chr 1 (nv a))] 5)) wr.heap.size 1 1 [chr 1 (nv a)] rfl (fun i hi => by
            obtain rfl : i = 0 := by omega
            exact (Blk.new wr 5 #[.int .u8 (chr 1 (nv a))]).cell 0)
          have hch : chr 1 (nv a) = nv a := rfl
          rw [hch] at hcv HS hone
          go_wp2
          go_roundw
          case rel => exact ⟨j + 1, by omega, by rw [← HK.out]; go_num, by rw [HS.out], hX.alloc _, hb0.alloc hb0.size _⟩
          case measure => simp [intOf]; omega
    · have hj2 : j = 8 := by omega
      subst hj2
      go_wp2
      go_ret
      exact ⟨rfl, hb⟩
set_option maxHeartbeats 2000000 in
theorem half_let (enc : Int) (he : enc ≠ 5) (r : List Bool) (hr : r.length = 129) (ob : Nat) (fr : Int) (hfr : fr = (ob : Int) + 1) (ho : ob ≤ 64) (w : World) :
    Calls Try.prog 50 #[.agg (rowA r), .int .i64 enc, .int .i64 fr] w fun e w' => e = .returned (.string (halfS (fOf enc) r ob 4 16)) ∧ Below w.heap.size w w' := by
  have e5 : (enc == 5) = false := by rw [beq_eq_false_iff_ne]; exact he
  have f1 : Hid (fOf enc ≠ 1) := by
    show _ ≠ _
    unfold fOf; split <;> decide
  clear he
  obtain ⟨c, hc⟩ : ∃ c, rowA r = c := ⟨_, rfl⟩
  have HG : Hid (∀ k, k < 129 → c[k]? = some (.bool (r.getD k false))) := by
    show ∀ k, _
    intro k hk; rw [← hc]; exact rowA_get r k (by omega)
  rw [hc]
  clear hc hr
  have HFR := Lib.hid hfr
  have fr0 : 1 ≤ fr := by omega
  have fr1 : fr ≤ 65 := by omega
  have HO := Lib.hid ho
  clear hfr ho
  go_enter Try.func50, Try.ntmps50
  go_wp2
  go_loopw [7, 9] (fun s k wr => ∃ (j : Nat), j ≤ 16 ∧ k = .int .i64 (fr + 4 * (j : Int)) ∧ s = .string (halfS (fOf enc) r ob 4 j) ∧ Blk wr w.heap.size 40 c ∧ Below w.heap.size w wr) (fun _ k _ => (fr + 64 - intOf k).toNat)
  case atStart => exact ⟨0, by omega, by simp, rfl, Blk.new w 40 c, (Below.refl _ _).alloc (Nat.le_refl _) _⟩
  case round =>
    obtain ⟨j, hj, rfl, rfl, hX, hb⟩ := hrel
    have hsz : (halfS (fOf enc) r ob 4 j).size = j := halfS_size _ _ _ _ _
    by_cases hlt : j < 16
    · obtain ⟨k, hk⟩ : ∃ k, fr + 4 * (j : Int) = k := ⟨_, rfl⟩
      have k0 : 1 ≤ k := by omega
      have k1 : k < fr + 64 := by omega
      have HK := Lib.hid hk
      rw [hk]
      have hk2 : Hid (k = ((ob + 4 * j : Nat) : Int) + 1) := by show _ = _; have := HFR.out; omega
      have kM : k ≤ 125 := by have := hk2.out; have := HO.out; omega
      obtain ⟨st, hst⟩ : ∃ st, halfS (fOf enc) r ob 4 j = st := ⟨_, rfl⟩
      have Hst := Lib.hid hst
      rw [hst] at hsz ⊢
      clear hk hst
      have hb0 := hb
      go_wp2
      go_loop [10, 11] (fun n i => ∃ (m : Nat), m ≤ 4 ∧ i = .int .i64 (k + (m : Int)) ∧ n = .int .i64 (nv (hN r (ob + 4 * j) m))) (fun _ i => (k + 4 - intOf i).toNat)
      case atStart => exact ⟨0, by omega, by simp, rfl⟩
      case round =>
        obtain ⟨m, hm, rfl, rfl⟩ := hrel
        by_cases hml : m < 4
        · have bd0 : 0 ≤ k + (m : Int) := by omega
          have bd1 : k + (m : Int) < 129 := by omega
          have g1 := hN_lt r (ob + 4 * j) m
          have p : 2 ^ m ≤ 2 ^ 3 := Nat.pow_le_pow_right (by omega) (by omega)
          obtain ⟨a, ha⟩ : ∃ a, hN r (ob + 4 * j) m = a := ⟨_, rfl⟩
          rw [ha] at g1 ⊢
          have W1 : IntKind.i64.wrap (2 * nv a) = nv (2 * a) := by
            rw [show 2 * nv a = nv (2 * a) by unfold nv; omega]; exact IntWalk.i64_in _ (by unfold nv; omega)
          have W2 : IntKind.i64.wrap (nv (2 * a) + 1) = nv (2 * a + 1) := by
            rw [show nv (2 * a) + 1 = nv (2 * a + 1) by unfold nv; omega]; exact IntWalk.i64_in _ (by unfold nv; omega)
          have R1 : Hid (hN r (ob + 4 * j) (m + 1) = 2 * a + (r.getD (k + (m : Int)).toNat false).toNat) := by
            show _ = _
            simp only [hN]
            rw [ha, show (k + (m : Int)).toNat = ob + 4 * j + m + 1 by have := hk2.out; omega]
          have y0 := (hX.cell (k + (m : Int)).toNat).trans (HG.out _ (by have := hk2.out; have := HO.out; omega))
          obtain ⟨v1, e1⟩ : ∃ v, r.getD (k + (m : Int)).toNat false = v := ⟨_, rfl⟩
          rw [e1] at y0 R1
          clear e1 ha g1 p
          cases v1
          all_goals
            go_wp2
            go_round
            case rel => exact ⟨m + 1, by omega, by go_num, by rw [R1.out]; rfl⟩
            case measure => simp [intOf]; omega
        · have hm2 : m = 4 := by omega
          subst hm2
          have g1 := hN_lt r (ob + 4 * j) 4
          obtain ⟨a, ha⟩ : ∃ a, hN r (ob + 4 * j) 4 = a := ⟨_, rfl⟩
          rw [ha] at g1 ⊢
          have nd : nv a = (a : Int) := rfl
          have n0 : 0 ≤ nv a := by unfold nv; omega
          have n1 : nv a < 16 := by unfold nv; omega
          have W3 : IntKind.u8.wrap (nv a) = nv a := IntWalk.u8_in _ (by unfold nv; omega)
          have N0 := Lib.hid n0
          have N1 := Lib.hid n1
          have HS : Hid (st ++ strOfNums [chr (fOf enc) (nv a)] = halfS (fOf enc) r ob 4 (j + 1)) := by
            show _ = _
            rw [← Hst.out, ← ha]; exact halfS_succ _ _ _ _ _
          clear nd n0 n1 ha g1
          have hone : (strOfNums [chr (fOf enc) (nv a)]).size = 1 := rfl
          have hcv := conv_cells (wr.alloc (.cells #[.int .u8 (chr (fOf enc) (nv a))] 5)) wr.heap.size 1 1 [chr (fOf enc) (nv a)] rfl (fun i hi => by
            obtain rfl : i = 0 := by omega
            exact (Blk.new wr 5 #[.int .u8 (chr (fOf enc) (nv a))]).cell 0)
          have hch : chr (fOf enc) (nv a) = sgn (fOf enc) (nv a) := if_neg f1.out
          rw [hch] at hcv HS hone
          go_wp2_with (go_at_call 56; refine (char_any _ _ _ N0.out N1.out).mono ?_; rintro e w' ⟨rfl, rfl⟩)
          go_roundw
          case rel => exact ⟨j + 1, by omega, by rw [← HK.out]; go_num, by rw [HS.out], hX.alloc _, hb0.alloc hb0.size _⟩
          case measure => simp [intOf]; omega
    · have hj2 : j = 16 := by omega
      subst hj2
      go_wp2
      go_ret
      exact ⟨rfl, hb⟩
end Go.Proofs.Ytieloocmkgficaa
