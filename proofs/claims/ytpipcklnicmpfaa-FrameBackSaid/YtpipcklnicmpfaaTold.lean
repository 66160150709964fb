/-
  What a header says, by its contract: told.
-/
import Derived.Test.YtpipcklnicmpfaaLeaf
namespace Go.Proofs.Ytpipcklnicmpfaa
open Go.RowKit
set_option linter.unusedVariables false
set_option linter.unusedSimpArgs false
theorem getD_drop {l : Bys} {k : Nat} (h : k < l.length) : l.drop k = l.getD k 0 :: l.drop (k + 1) := by
  rw [List.drop_eq_getElem_cons h, List.getD, List.getElem?_eq_getElem h, Option.getD_some]
theorem digs_drop {l : Bys} {k : Nat} {n : Int} (h : k < l.length) : digs (l.drop k) n = if bn (l.getD k 0) < 48 ∨ 57 < bn (l.getD k 0) then (0, false) else digs (l.drop (k + 1)) (10 * n + (bn (l.getD k 0) - 48)) := by
  rw [getD_drop h]; rfl
theorem bcds_drop {l : Bys} {k : Nat} {n : Int} (h : k < l.length) : bcds (l.drop k) n = if 9 < bn (l.getD k 0) / 16 ∨ 9 < bn (l.getD k 0) % 16 then (0, false) else bcds (l.drop (k + 1)) (100 * n + 10 * (bn (l.getD k 0) / 16) + bn (l.getD k 0) % 16) := by
  rw [getD_drop h]; rfl
theorem ret_pair {a b : Int} {c d : Bool} (h : (a, c) = (b, d)) : Ending.returned (.tuple #[.int .i64 a, .bool c]) = .returned (.tuple #[.int .i64 b, .bool d]) := by
  injection h with h1 h2; rw [h1, h2]
/-- The value of what a header says. -/
def toldW (p : Int × Bool) : Value := .tuple #[.int .i64 p.1, .bool p.2]
set_option maxHeartbeats 1000000 in
theorem told_four (b off c : Nat) (l : Bys) (hl : l.length = 4) (w : World) (hc : ∀ i, i < 4 → w.cell? ⟨b, off + i, none⟩ = some (.int .u8 (bn (l.getD i 0)))) :
    Calls Try.prog 41 #[.int .i64 2, .slice (some ⟨b, off, none⟩) 4 c] w fun e w' => e = .returned (toldW (digs l 0)) ∧ w = w' := by
  have HC := Lib.hid hc
  have HL := Lib.hid hl
  clear hc hl
  go_enter Try.func41, Try.ntmps41
  go_wp2
  go_loop [6, 16] (fun s i => ∃ (k : Nat) (n : Int), k ≤ 4 ∧ i = .int .i64 k ∧ s = .int .i64 n ∧ Hid (digs l 0 = digs (l.drop k) n) ∧ 0 ≤ n ∧ Hid ((k = 0 → n ≤ 0) ∧ (k = 1 → n ≤ 9) ∧ (k = 2 → n ≤ 99) ∧ (k = 3 → n ≤ 999))) (fun _ i => 4 - (intOf i).toNat)
  case atStart => exact ⟨0, 0, by omega, rfl, rfl, (show digs l 0 = digs (l.drop 0) 0 from rfl), by omega, Lib.hid ⟨by omega, by omega, by omega, by omega⟩⟩
  case round =>
    obtain ⟨k, n, hk, rfl, rfl, HD, hn0, HB⟩ := hrel
    by_cases hlt : k < 4
    · have hn9 : n ≤ 999 := by have := HB.out; omega
      have hcell := HC.out k hlt
      have HS : Hid (digs (l.drop k) n = _) := digs_drop (l := l) (n := n) (by rw [HL.out]; exact hlt)
      obtain ⟨hx0, hx1⟩ := bn_rng (l.getD k 0)
      obtain ⟨x, hx⟩ : ∃ x, bn (l.getD k 0) = x := ⟨_, rfl⟩
      rw [hx] at HS hcell hx0 hx1
      clear hx
      by_cases h1 : x < 48
      · have d1 : decide (x < 48) = true := decide_eq_true h1
        go_wp2
        go_ret2
        refine ⟨?_, rfl⟩
        rw [HD.out, HS.out, if_pos (.inl h1)]
        rfl
      · have d1 : decide (x < 48) = false := decide_eq_false h1
        by_cases h2 : 57 < x
        · have d2 : decide (57 < x) = true := decide_eq_true h2
          go_wp2
          go_ret2
          refine ⟨?_, rfl⟩
          rw [HD.out, HS.out, if_pos (.inr h2)]
          rfl
        · have d2 : decide (57 < x) = false := decide_eq_false h2
          go_wp2
          go_round
          case rel =>
            refine ⟨k + 1, 10 * n + (x - 48), by omega, by go_num, by go_num, ?_, by omega, ?_⟩
            · show _ = _
              rw [HD.out, HS.out, if_neg (by omega)]
            · have := HB.out
              exact Lib.hid ⟨by omega, by omega, by omega, by omega⟩
          case measure => simp [intOf]; omega
    · have hk4 : k = 4 := by omega
      subst hk4
      go_wp2
      go_ret2
      refine ⟨?_, rfl⟩
      rw [HD.out, List.drop_eq_nil_iff.2 (by rw [HL.out]; omega)]
      rfl
theorem and15 (x : Int) (h0 : 0 ≤ x) (h1 : x < 256) : bits .and .u8 x 15 = x % 16 := by
  obtain ⟨m, rfl⟩ : ∃ m : Nat, x = (m : Int) := ⟨x.toNat, by omega⟩
  have h : ∀ m : Fin 256, bits .and .u8 (m.val : Int) 15 = (m.val : Int) % 16 := by decide +kernel
  exact h ⟨m, by omega⟩
set_option maxHeartbeats 1000000 in
theorem told_bcd (b off c : Nat) (l : Bys) (hl : l.length = 2) (w : World) (hc : ∀ i, i < 2 → w.cell? ⟨b, off + i, none⟩ = some (.int .u8 (bn (l.getD i 0)))) :
    Calls Try.prog 41 #[.int .i64 3, .slice (some ⟨b, off, none⟩) 2 c] w fun e w' => e = .returned (toldW (bcds l 0)) ∧ w = w' := by
  have HC := Lib.hid hc
  have HL := Lib.hid hl
  clear hc hl
  go_enter Try.func41, Try.ntmps41
  go_wp2
  go_loop [6, 38] (fun s i => ∃ (k : Nat) (n : Int), k ≤ 2 ∧ i = .int .i64 k ∧ s = .int .i64 n ∧ Hid (bcds l 0 = bcds (l.drop k) n) ∧ 0 ≤ n ∧ Hid ((k = 0 → n ≤ 0) ∧ (k = 1 → n ≤ 99))) (fun _ i => 2 - (intOf i).toNat)
  case atStart => exact ⟨0, 0, by omega, rfl, rfl, (show bcds l 0 = bcds (l.drop 0) 0 from rfl), by omega, Lib.hid ⟨by omega, by omega⟩⟩
  case round =>
    obtain ⟨k, n, hk, rfl, rfl, HD, hn0, HB⟩ := hrel
    by_cases hlt : k < 2
    · have hn9 : n ≤ 99 := by have := HB.out; omega
      have hcell := HC.out k hlt
      have HS : Hid (bcds (l.drop k) n = _) := bcds_drop (l := l) (n := n) (by rw [HL.out]; exact hlt)
      obtain ⟨hx0, hx1⟩ := bn_rng (l.getD k 0)
      obtain ⟨x, hx⟩ : ∃ x, bn (l.getD k 0) = x := ⟨_, rfl⟩
      rw [hx] at HS hcell hx0 hx1
      clear hx
      have ha := and15 x hx0 hx1
      by_cases h1 : 9 < x / 16
      · have d1 : decide (9 < x / 16) = true := decide_eq_true h1
        go_wp2
        go_ret2
        refine ⟨?_, rfl⟩
        rw [HD.out, HS.out, if_pos (.inl h1)]
        rfl
      · have d1 : decide (9 < x / 16) = false := decide_eq_false h1
        by_cases h2 : 9 < x % 16
        · have d2 : decide (9 < x % 16) = true := decide_eq_true h2
          go_wp2
          go_ret2
          refine ⟨?_, rfl⟩
          rw [HD.out, HS.out, if_pos (.inr h2)]
          rfl
        · have d2 : decide (9 < x % 16) = false := decide_eq_false h2
          go_wp2
          go_round
          case rel =>
            refine ⟨k + 1, 100 * n + 10 * (x / 16) + x % 16, by omega, by go_num, by go_num, ?_, by omega, ?_⟩
            · show _ = _
              rw [HD.out, HS.out, if_neg (by omega)]
            · have := HB.out
              exact Lib.hid ⟨by omega, by omega⟩
          case measure => simp [intOf]; omega
    · have hk4 : k = 2 := by omega
      subst hk4
      go_wp2
      go_ret2
      refine ⟨?_, rfl⟩
      rw [HD.out, List.drop_eq_nil_iff.2 (by rw [HL.out]; omega)]
      rfl
theorem i64_or (a b : Nat) (ha : a < 65536) (hb : b < 65536) : bits .or .i64 (a : Int) (b : Int) = ((a ||| b : Nat) : Int) := by
  have ea : (BitVec.ofInt 64 (a : Int)).toNat = a := by rw [BitVec.ofInt_natCast, BitVec.toNat_ofNat]; exact Nat.mod_eq_of_lt (by omega)
  have eb : (BitVec.ofInt 64 (b : Int)).toNat = b := by rw [BitVec.ofInt_natCast, BitVec.toNat_ofNat]; exact Nat.mod_eq_of_lt (by omega)
  have hx : a ||| b < 2 ^ 16 := Nat.or_lt_two_pow (by omega) (by omega)
  show IntKind.i64.wrap ((BitVec.ofInt 64 (a : Int) ||| BitVec.ofInt 64 (b : Int)).toNat : Int) = _
  rw [BitVec.toNat_or, ea, eb, IntKind.wrap_i64]
  omega
theorem or_two (x y : Int) (hx0 : 0 ≤ x) (hx1 : x < 256) (hy0 : 0 ≤ y) (hy1 : y < 256) : bits .or .i64 (x * 256) y = 256 * x + y := by
  obtain ⟨a, rfl⟩ : ∃ m : Nat, x = (m : Int) := ⟨x.toNat, by omega⟩
  obtain ⟨b, rfl⟩ : ∃ m : Nat, y = (m : Int) := ⟨y.toNat, by omega⟩
  have e : (a : Int) * 256 = ((a * 256 : Nat) : Int) := by omega
  rw [e, i64_or _ _ (by omega) (by omega)]
  have h : a * 256 ||| b = 2 ^ 8 * a + b := by
    rw [Nat.mul_comm]
    exact (Nat.two_pow_add_eq_or_of_lt (i := 8) (by omega) a).symm
  rw [h]
  omega
set_option maxHeartbeats 1000000 in
theorem told_bin (h : Int) (hh : h = 1 ∨ h = 4) (b off c : Nat) (l : Bys) (hl : l.length = 2) (w : World) (hc : ∀ i, i < 2 → w.cell? ⟨b, off + i, none⟩ = some (.int .u8 (bn (l.getD i 0)))) :
    Calls Try.prog 41 #[.int .i64 h, .slice (some ⟨b, off, none⟩) 2 c] w fun e w' => e = .returned (toldW (bins h l, decide (0 ≤ bins h l))) ∧ ∃ n, w' = w.drewN n := by
  have c0 := hc 0 (by omega)
  have c1 := hc 1 (by omega)
  have HB : Hid (bins h l = 256 * bn (l.getD 0 0) + bn (l.getD 1 0) - (if h = 4 then 2 else 0)) := Lib.hid rfl
  obtain ⟨hx0, hx1⟩ := bn_rng (l.getD 0 0)
  obtain ⟨hy0, hy1⟩ := bn_rng (l.getD 1 0)
  obtain ⟨x, hx⟩ : ∃ x, bn (l.getD 0 0) = x := ⟨_, rfl⟩
  obtain ⟨y, hy⟩ : ∃ y, bn (l.getD 1 0) = y := ⟨_, rfl⟩
  rw [hx] at HB c0 hx0 hx1
  rw [hy] at HB c1 hy0 hy1
  simp only [Nat.add_zero] at c0
  have ho := or_two x y hx0 hx1 hy0 hy1
  clear hc hl hx hy
  rcases hh with rfl | rfl
  · go_enter Try.func41, Try.ntmps41
    go_wp2
    go_quiet (fail)
    go_wp2
    go_ret2
    refine ⟨?_, _, rfl⟩
    rw [HB.out, if_neg (by decide)]
    simp [toldW]
  · go_enter Try.func41, Try.ntmps41
    go_wp2
    go_quiet (fail)
    go_wp2
    go_ret2
    refine ⟨?_, _, rfl⟩
    have q : decide (0 ≤ 256 * x + y - 2) = decide (2 ≤ 256 * x + y) := by rw [decide_eq_decide]; omega
    rw [HB.out]
    simp only [if_true, q]
    rfl
theorem told_any {h : Int} (h1 : 1 ≤ h) (h4 : h ≤ 4) (b off c : Nat) (l : Bys) (hl : l.length = hsz h) (w : World) (hc : ∀ i, i < hsz h → w.cell? ⟨b, off + i, none⟩ = some (.int .u8 (bn (l.getD i 0)))) :
    Calls Try.prog 41 #[.int .i64 h, .slice (some ⟨b, off, none⟩) (hsz h) c] w fun e w' => e = .returned (toldW (toldI h l)) ∧ ∃ n, w' = w.drewN n := by
  by_cases e2 : h = 2
  · subst e2
    exact (told_four b off c l hl w hc).mono fun _ _ ⟨h, k⟩ => ⟨h, 0, by rw [← k]; rfl⟩
  · have e : hsz h = 2 := by unfold hsz; rw [if_neg e2]
    rw [e] at hl hc ⊢
    by_cases e3 : h = 3
    · subst e3
      exact (told_bcd b off c l hl w hc).mono fun _ _ ⟨h, k⟩ => ⟨h, 0, by rw [← k]; rfl⟩
    · have := told_bin h (by omega) b off c l hl w hc
      unfold toldI
      rw [if_neg e2, if_neg e3]
      exact this
end Go.Proofs.Ytpipcklnicmpfaa
