/-
  read and Decode, each by its contract.
-/
import Derived.Test.YtieloocmkgficaaRead
namespace Go.Proofs.Ytieloocmkgficaa
open Go.RowKit
set_option linter.unusedVariables false
set_option linter.unusedSimpArgs false
/-- A multiple of 2^k and a number below it: or is plus. -/
theorem or_add (x v k : Nat) (hv : v < 2 ^ k) (hx : 2 ^ k * x + v < 2 ^ 64) : bits .or .u64 ((2 ^ k * x : Nat) : Int) (v : Int) = ((2 ^ k * x + v : Nat) : Int) := by
  have h := bits_or (BitVec.ofNat 64 (2 ^ k * x)) (BitVec.ofNat 64 v)
  unfold iv at h
  rw [BitVec.toNat_or, BitVec.toNat_ofNat, BitVec.toNat_ofNat, Nat.mod_eq_of_lt (by omega), Nat.mod_eq_of_lt (by omega)] at h
  rw [h, Nat.two_pow_add_eq_or_of_lt hv]
theorem or16 (x v : Int) (h0 : 0 ≤ x) (h1 : x < 1152921504606846976) (v0 : 0 ≤ v) (v1 : v < 16) : bits .or .u64 (x * 16) v = x * 16 + v := by
  obtain ⟨a, rfl⟩ := Int.eq_ofNat_of_zero_le h0
  obtain ⟨b, rfl⟩ := Int.eq_ofNat_of_zero_le v0
  have h := or_add a b 4 (by omega) (by omega)
  rw [show ((a : Int) * 16) = ((2 ^ 4 * a : Nat) : Int) by omega, h]; omega
theorem or256 (x v : Int) (h0 : 0 ≤ x) (h1 : x < 72057594037927936) (v0 : 0 ≤ v) (v1 : v < 256) : bits .or .u64 (x * 256) v = x * 256 + v := by
  obtain ⟨a, rfl⟩ := Int.eq_ofNat_of_zero_le h0
  obtain ⟨b, rfl⟩ := Int.eq_ofNat_of_zero_le v0
  have h := or_add a b 8 (by omega) (by omega)
  rw [show ((a : Int) * 256) = ((2 ^ 8 * a : Nat) : Int) by omega, h]; omega
theorem p16 (k : Nat) (h : k ≤ 15) : (16 : Int) ^ k ≤ 1152921504606846976 := by
  have e : (16 : Nat) ^ k ≤ 16 ^ 15 := Nat.pow_le_pow_right (by omega) h
  have e' : ((16 ^ k : Nat) : Int) = (16 : Int) ^ k := by rw [Int.natCast_pow]; rfl
  rw [← e']; omega
theorem p256 (k : Nat) (h : k ≤ 7) : (256 : Int) ^ k ≤ 72057594037927936 := by
  have e : (256 : Nat) ^ k ≤ 256 ^ 7 := Nat.pow_le_pow_right (by omega) h
  have e' : ((256 ^ k : Nat) : Int) = (256 : Int) ^ k := by rw [Int.natCast_pow]; rfl
  rw [← e']; omega
theorem rd_zero (f : Int) (b : ByteArray) (x : Int) (a : Nat) : rd f b 0 x a = (x, 0, a) := rfl
theorem rd_end0 (f : Int) (b : ByteArray) (n : Nat) (x : Int) (a : Nat) (h : a = b.size) : rd f b (n + 1) x a = (0, 10, a) := by
  unfold rd; rw [if_pos h]
theorem rd_bad (f : Int) (b : ByteArray) (n : Nat) (x : Int) (a : Nat) (h : a ≠ b.size) (hv : valV f (byt b a) < 0) : rd f b (n + 1) x a = (0, 11, a) := by
  unfold rd; rw [if_neg h, if_pos hv]
theorem rd_go (f : Int) (b : ByteArray) (n : Nat) (x : Int) (a : Nat) (h : a ≠ b.size) (hv : 0 ≤ valV f (byt b a)) : rd f b (n + 1) x a = rd f b n (x * baseV f + valV f (byt b a)) (a + 1) := by
  rw [rd, if_neg h, if_neg (by omega)]
def triple (r : Int × Int × Nat) : Value := .tuple #[.int .u64 r.1, .int .i64 r.2.1, .int .i64 (r.2.2 : Int)]
theorem ret3 (a b : Int) (c : Nat) (r : Int × Int × Nat) (h : r = (a, b, c)) : Ending.returned (.tuple #[.int .u64 a, .int .i64 b, .int .i64 (c : Int)]) = Ending.returned (triple r) := by rw [h]; rfl
set_option maxHeartbeats 800000 in
theorem read_let (f : Int) (b : ByteArray) (at0 : Nat) (w : World) (hf : f ≠ 1) (hs : b.size ≤ 9223372036854775807) (h0 : at0 ≤ b.size) :
    Calls Try.prog 52 #[.int .i64 f, .string b, .int .i64 at0] w fun e w' => e = .returned (triple (readV f b at0)) ∧ w = w' := by
  have e1 : (f == 1) = false := by rw [beq_eq_false_iff_ne]; exact hf
  have hbase : baseV f = 16 := if_neg hf
  have hmany : manyV f = 16 := if_neg hf
  have HB := Lib.hid hbase
  have HM := Lib.hid hmany
  have HF := Lib.hid hf
  clear hf hbase hmany
  go_enter Try.func52, Try.ntmps52
  go_wp2
  go_loop [2, 11, 17] (fun q x i => ∃ (k at_ : Nat) (y : Int), i = .int .i64 k ∧ q = .int .i64 at_ ∧ x = .int .u64 y ∧ k ≤ 16 ∧ at_ ≤ b.size ∧ 0 ≤ y ∧ Hid (y < 16 ^ k) ∧ Hid (rd f b (16 - k) y at_ = readV f b at0)) (fun _ _ i => 16 - (intOf i).toNat)
  case atStart => exact ⟨0, at0, 0, rfl, rfl, rfl, by omega, h0, by omega, Lib.hid (by decide), Lib.hid (by unfold readV; rw [HM.out])⟩
  case round =>
    obtain ⟨k, at_, y, rfl, rfl, rfl, hk, ha, hy0, hyk, hrd⟩ := hrel
    by_cases hlt : k < 16
    · have hn : 16 - k = (15 - k) + 1 := by omega
      have hy1 : y < 1152921504606846976 := Int.lt_of_lt_of_le hyk.out (p16 k (by omega))
      by_cases he : at_ = b.size
      · have R := Lib.hid (rd_end0 f b (15 - k) y at_ he)
        have HN := Lib.hid hn
        clear hn
        subst he
        go_wp2
        go_ret3
        exact ⟨ret3 0 10 _ _ (by rw [← hrd.out, HN.out, R.out]), rfl⟩
      · have hal : at_ < b.size := by omega
        have W1 : IntKind.u64.wrap (y * 16) = y * 16 := IntWalk.u64_in _ (by omega)
        have be : ((at_ : Int) == (b.size : Int)) = false := by rw [beq_eq_false_iff_ne]; omega
        obtain ⟨c, hc⟩ : ∃ c, byt b at_ = c := ⟨_, rfl⟩
        have bg := byt_get b at_ hal
        rw [hc] at bg
        have bR := byt_rng b at_
        rw [hc] at bR
        obtain ⟨c0, c1⟩ := bR
        have hvr := wor_rng f c
        obtain ⟨v, hv⟩ : ∃ v, worV f c = v := ⟨_, rfl⟩
        have hval : valV f (byt b at_) = v := by unfold valV; rw [if_neg HF.out, hc, hv]
        rw [hv] at hvr
        obtain ⟨v0, v1⟩ := hvr
        by_cases hneg : v < 0
        · have R := Lib.hid (rd_bad f b (15 - k) y at_ he (by rw [hval]; exact hneg))
          have HN := Lib.hid hn
          have HV := Lib.hid hv
          have hd : Hid (decide (0 ≤ worV f c) = false) := by show _ = _; rw [hv]; exact decide_eq_false (by omega)
          clear hn hv hval hc he
          go_wp2_with (go_at_call 57; refine (worth_any _ _ _ HF.out).mono ?_; rintro e w' ⟨rfl, rfl⟩; rw [hd.out])
          go_ret3
          exact ⟨ret3 0 11 _ _ (by rw [← hrd.out, HN.out, R.out]), rfl⟩
        · have R := Lib.hid (rd_go f b (15 - k) y at_ he (by rw [hval]; omega))
          have HN := Lib.hid hn
          have HVal := Lib.hid hval
          have hd : Hid (decide (0 ≤ worV f c) = true) := by show _ = _; rw [hv]; exact decide_eq_true (by omega)
          have hw : Hid (worN f c = v) := by show _ = _; unfold worN; rw [hv, if_neg hneg]
          have O1 := or16 y v hy0 hy1 (by omega) v1
          clear hn hv hval hc he
          go_wp2_with (go_at_call 57; refine (worth_any _ _ _ HF.out).mono ?_; rintro e w' ⟨rfl, rfl⟩; rw [hd.out, hw.out])
          go_round
          case rel =>
            refine ⟨k + 1, at_ + 1, y * 16 + v, by go_num, by go_num, rfl, by omega, by omega, by omega, Lib.hid ?_, Lib.hid ?_⟩
            · have := hyk.out
              rw [Int.pow_succ]; omega
            · rw [← hrd.out, HN.out, R.out, HB.out, HVal.out, show 15 - k = 16 - (k + 1) by omega]
          case measure => simp [intOf]; omega
    · have hk16 : k = 16 := by omega
      subst hk16
      have R := Lib.hid (rd_zero f b y at_)
      go_wp2
      go_ret3
      exact ⟨ret3 y 0 _ _ (by rw [← hrd.out, ← R.out]), rfl⟩
set_option maxHeartbeats 800000 in
theorem read_eight (b : ByteArray) (at0 : Nat) (w : World) (hs : b.size ≤ 9223372036854775807) (h0 : at0 ≤ b.size) :
    Calls Try.prog 52 #[.int .i64 1, .string b, .int .i64 at0] w fun e w' => e = .returned (triple (readV 1 b at0)) ∧ w = w' := by
  go_enter Try.func52, Try.ntmps52
  go_wp2
  go_loop [2, 11, 17] (fun q x i => ∃ (k at_ : Nat) (y : Int), i = .int .i64 k ∧ q = .int .i64 at_ ∧ x = .int .u64 y ∧ k ≤ 8 ∧ at_ ≤ b.size ∧ 0 ≤ y ∧ Hid (y < 256 ^ k) ∧ Hid (rd 1 b (8 - k) y at_ = readV 1 b at0)) (fun _ _ i => 8 - (intOf i).toNat)
  case atStart => exact ⟨0, at0, 0, rfl, rfl, rfl, by omega, h0, by omega, Lib.hid (by decide), Lib.hid rfl⟩
  case round =>
    obtain ⟨k, at_, y, rfl, rfl, rfl, hk, ha, hy0, hyk, hrd⟩ := hrel
    by_cases hlt : k < 8
    · have hn : 8 - k = (7 - k) + 1 := by omega
      have hy1 : y < 72057594037927936 := Int.lt_of_lt_of_le hyk.out (p256 k (by omega))
      by_cases he : at_ = b.size
      · have R := Lib.hid (rd_end0 1 b (7 - k) y at_ he)
        have HN := Lib.hid hn
        clear hn
        subst he
        go_wp2
        go_ret3
        exact ⟨ret3 0 10 _ _ (by rw [← hrd.out, HN.out, R.out]), rfl⟩
      · have hal : at_ < b.size := by omega
        have W1 : IntKind.u64.wrap (y * 256) = y * 256 := IntWalk.u64_in _ (by omega)
        have be : ((at_ : Int) == (b.size : Int)) = false := by rw [beq_eq_false_iff_ne]; omega
        obtain ⟨c, hc⟩ : ∃ c, byt b at_ = c := ⟨_, rfl⟩
        have bg := byt_get b at_ hal
        rw [hc] at bg
        have bR := byt_rng b at_
        rw [hc] at bR
        obtain ⟨c0, c1⟩ := bR
        have hval : valV 1 (byt b at_) = c := by unfold valV; rw [if_pos rfl, hc]
        have R := Lib.hid (rd_go 1 b (7 - k) y at_ he (by rw [hval]; omega))
        have HN := Lib.hid hn
        have HVal := Lib.hid hval
        have O1 := or256 y c hy0 hy1 c0 c1
        clear hn hval hc he
        go_wp2
        go_round
        case rel =>
          refine ⟨k + 1, at_ + 1, y * 256 + c, by go_num, by go_num, rfl, by omega, by omega, by omega, Lib.hid ?_, Lib.hid ?_⟩
          · have := hyk.out
            rw [Int.pow_succ]; omega
          · rw [← hrd.out, HN.out, R.out, HVal.out, show 7 - k = 8 - (k + 1) by omega]; rfl
        case measure => simp [intOf]; omega
    · have hk16 : k = 8 := by omega
      subst hk16
      have R := Lib.hid (rd_zero 1 b y at_)
      go_wp2
      go_ret3
      exact ⟨ret3 y 0 _ _ (by rw [← hrd.out, ← R.out]), rfl⟩
theorem read_any (f : Int) (b : ByteArray) (at0 : Nat) (w : World) (hs : b.size ≤ 9223372036854775807) (h0 : at0 ≤ b.size) :
    Calls Try.prog 52 #[.int .i64 f, .string b, .int .i64 at0] w fun e w' => e = .returned (triple (readV f b at0)) ∧ w = w' := by
  by_cases h : f = 1
  · subst h; exact read_eight b at0 w hs h0
  · exact read_let f b at0 w h hs h0
end Go.Proofs.Ytieloocmkgficaa
