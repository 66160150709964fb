/-
  Decode once more: of a text of whatever size (the places read are small).
-/
import Derived.Test.YtieloocmkgficaaDecode
namespace Go.Proofs.Ytieloocmkgficaa
open Go.RowKit
set_option linter.unusedVariables false
set_option linter.unusedSimpArgs false
set_option maxHeartbeats 800000 in
theorem read_let_b (f : Int) (b : ByteArray) (at0 : Nat) (w : World) (hf : f ≠ 1) (hs : at0 ≤ 100) (h0 : at0 ≤ b.size) :
    Calls Try.prog 52 #[.int .i64 f, .string b, .int .i64 at0] w fun e w' => e = .returned (triple (readV f b at0)) ∧ w = w' := by
  have e1 : (f == 1) = false := by rw [beq_eq_false_iff_ne]; exact hf
  have hbase : baseV f = 16 := if_neg hf
  have hmany : manyV f = 16 := if_neg hf
  have HB := Lib.hid hbase
  have HM := Lib.hid hmany
  have HF := Lib.hid hf
  clear hf hbase hmany
  go_enter Try.func52, Try.ntmps52
  go_wp2
  go_loop [2, 11, 17] (fun q x i => ∃ (k at_ : Nat) (y : Int), i = .int .i64 k ∧ q = .int .i64 at_ ∧ x = .int .u64 y ∧ k ≤ 16 ∧ at_ ≤ b.size ∧ at_ ≤ at0 + k ∧ 0 ≤ y ∧ Hid (y < 16 ^ k) ∧ Hid (rd f b (16 - k) y at_ = readV f b at0)) (fun _ _ i => 16 - (intOf i).toNat)
  case atStart => exact ⟨0, at0, 0, rfl, rfl, rfl, by omega, h0, by omega, by omega, Lib.hid (by decide), Lib.hid (by unfold readV; rw [HM.out])⟩
  case round =>
    obtain ⟨k, at_, y, rfl, rfl, rfl, hk, ha, hak, hy0, hyk, hrd⟩ := hrel
    by_cases hlt : k < 16
    · have hn : 16 - k = (15 - k) + 1 := by omega
      have hy1 : y < 1152921504606846976 := Int.lt_of_lt_of_le hyk.out (p16 k (by omega))
      by_cases he : at_ = b.size
      · have R := Lib.hid (rd_end0 f b (15 - k) y at_ he)
        have HN := Lib.hid hn
        clear hn
        subst he
        go_wp2
        go_ret3
        exact ⟨ret3 0 10 _ _ (by rw [← hrd.out, HN.out, R.out]), rfl⟩
      · have hal : at_ < b.size := by omega
        have W1 : IntKind.u64.wrap (y * 16) = y * 16 := IntWalk.u64_in _ (by omega)
        have be : ((at_ : Int) == (b.size : Int)) = false := by rw [beq_eq_false_iff_ne]; omega
        obtain ⟨c, hc⟩ : ∃ c, byt b at_ = c := ⟨_, rfl⟩
        have bg := byt_get b at_ hal
        rw [hc] at bg
        have bR := byt_rng b at_
        rw [hc] at bR
        obtain ⟨c0, c1⟩ := bR
        have hvr := wor_rng f c
        obtain ⟨v, hv⟩ : ∃ v, worV f c = v := ⟨_, rfl⟩
        have hval : valV f (byt b at_) = v := by unfold valV; rw [if_neg HF.out, hc, hv]
        rw [hv] at hvr
        obtain ⟨v0, v1⟩ := hvr
        by_cases hneg : v < 0
        · have R := Lib.hid (rd_bad f b (15 - k) y at_ he (by rw [hval]; exact hneg))
          have HN := Lib.hid hn
          have HV := Lib.hid hv
          have hd : Hid (decide (0 ≤ worV f c) = false) := by show _ = _; rw [hv]; exact decide_eq_false (by omega)
          clear hn hv hval hc he
          go_wp2_with (go_at_call 57; refine (worth_any _ _ _ HF.out).mono ?_; rintro e w' ⟨rfl, rfl⟩; rw [hd.out])
          go_ret3
          exact ⟨ret3 0 11 _ _ (by rw [← hrd.out, HN.out, R.out]), rfl⟩
        · have R := Lib.hid (rd_go f b (15 - k) y at_ he (by rw [hval]; omega))
          have HN := Lib.hid hn
          have HVal := Lib.hid hval
          have hd : Hid (decide (0 ≤ worV f c) = true) := by show _ = _; rw [hv]; exact decide_eq_true (by omega)
          have hw : Hid (worN f c = v) := by show _ = _; unfold worN; rw [hv, if_neg hneg]
          have O1 := or16 y v hy0 hy1 (by omega) v1
          clear hn hv hval hc he
          go_wp2_with (go_at_call 57; refine (worth_any _ _ _ HF.out).mono ?_; rintro e w' ⟨rfl, rfl⟩; rw [hd.out, hw.out])
          go_round
          case rel =>
            refine ⟨k + 1, at_ + 1, y * 16 + v, by go_num, by go_num, rfl, by omega, by omega, by omega, by omega, Lib.hid ?_, Lib.hid ?_⟩
            · have := hyk.out
              rw [Int.pow_succ]; omega
            · rw [← hrd.out, HN.out, R.out, HB.out, HVal.out, show 15 - k = 16 - (k + 1) by omega]
          case measure => simp [intOf]; omega
    · have hk16 : k = 16 := by omega
      subst hk16
      have R := Lib.hid (rd_zero f b y at_)
      go_wp2
      go_ret3
      exact ⟨ret3 y 0 _ _ (by rw [← hrd.out, ← R.out]), rfl⟩
set_option maxHeartbeats 800000 in
theorem read_eight_b (b : ByteArray) (at0 : Nat) (w : World) (hs : at0 ≤ 100) (h0 : at0 ≤ b.size) :
    Calls Try.prog 52 #[.int .i64 1, .string b, .int .i64 at0] w fun e w' => e = .returned (triple (readV 1 b at0)) ∧ w = w' := by
  go_enter Try.func52, Try.ntmps52
  go_wp2
  go_loop [2, 11, 17] (fun q x i => ∃ (k at_ : Nat) (y : Int), i = .int .i64 k ∧ q = .int .i64 at_ ∧ x = .int .u64 y ∧ k ≤ 8 ∧ at_ ≤ b.size ∧ at_ ≤ at0 + k ∧ 0 ≤ y ∧ Hid (y < 256 ^ k) ∧ Hid (rd 1 b (8 - k) y at_ = readV 1 b at0)) (fun _ _ i => 8 - (intOf i).toNat)
  case atStart => exact ⟨0, at0, 0, rfl, rfl, rfl, by omega, h0, by omega, by omega, Lib.hid (by decide), Lib.hid rfl⟩
  case round =>
    obtain ⟨k, at_, y, rfl, rfl, rfl, hk, ha, hak, hy0, hyk, hrd⟩ := hrel
    by_cases hlt : k < 8
    · have hn : 8 - k = (7 - k) + 1 := by omega
      have hy1 : y < 72057594037927936 := Int.lt_of_lt_of_le hyk.out (p256 k (by omega))
      by_cases he : at_ = b.size
      · have R := Lib.hid (rd_end0 1 b (7 - k) y at_ he)
        have HN := Lib.hid hn
        clear hn
        subst he
        go_wp2
        go_ret3
        exact ⟨ret3 0 10 _ _ (by rw [← hrd.out, HN.out, R.out]), rfl⟩
      · have hal : at_ < b.size := by omega
        have W1 : IntKind.u64.wrap (y * 256) = y * 256 := IntWalk.u64_in _ (by omega)
        have be : ((at_ : Int) == (b.size : Int)) = false := by rw [beq_eq_false_iff_ne]; omega
        obtain ⟨c, hc⟩ : ∃ c, byt b at_ = c := ⟨_, rfl⟩
        have bg := byt_get b at_ hal
        rw [hc] at bg
        have bR := byt_rng b at_
        rw [hc] at bR
        obtain ⟨c0, c1⟩ := bR
        have hval : valV 1 (byt b at_) = c := by unfold valV; rw [if_pos rfl, hc]
        have R := Lib.hid (rd_go 1 b (7 - k) y at_ he (by rw [hval]; omega))
        have HN := Lib.hid hn
        have HVal := Lib.hid hval
        have O1 := or256 y c hy0 hy1 c0 c1
        clear hn hval hc he
        go_wp2
        go_round
        case rel =>
          refine ⟨k + 1, at_ + 1, y * 256 + c, by go_num, by go_num, rfl, by omega, by omega, by omega, by omega, Lib.hid ?_, Lib.hid ?_⟩
          · have := hyk.out
            rw [Int.pow_succ]; omega
          · rw [← hrd.out, HN.out, R.out, HVal.out, show 7 - k = 8 - (k + 1) by omega]; rfl
        case measure => simp [intOf]; omega
    · have hk16 : k = 8 := by omega
      subst hk16
      have R := Lib.hid (rd_zero 1 b y at_)
      go_wp2
      go_ret3
      exact ⟨ret3 y 0 _ _ (by rw [← hrd.out, ← R.out]), rfl⟩
theorem read_any_b (f : Int) (b : ByteArray) (at0 : Nat) (w : World) (hs : at0 ≤ 100) (h0 : at0 ≤ b.size) :
    Calls Try.prog 52 #[.int .i64 f, .string b, .int .i64 at0] w fun e w' => e = .returned (triple (readV f b at0)) ∧ w = w' := by
  by_cases h : f = 1
  · subst h; exact read_eight_b b at0 w hs h0
  · exact read_let_b f b at0 w h hs h0
theorem read_is_b (f : Int) (b : ByteArray) (at0 : Nat) (x e : Int) (z : Nat) (w : World) (hs : at0 ≤ 100) (h0 : at0 ≤ b.size) (h : readV f b at0 = (x, e, z)) :
    Calls Try.prog 52 #[.int .i64 f, .string b, .int .i64 at0] w fun r w' => r = .returned (.tuple #[.int .u64 x, .int .i64 e, .int .i64 (z : Int)]) ∧ w = w' := by
  have k := read_any_b f b at0 w hs h0
  rw [h] at k
  exact k
theorem read_is0_b (f : Int) (b : ByteArray) (x e : Int) (z : Nat) (w : World) (h : readV f b 0 = (x, e, z)) :
    Calls Try.prog 52 #[.int .i64 f, .string b, .int .i64 0] w fun r w' => r = .returned (.tuple #[.int .u64 x, .int .i64 e, .int .i64 (z : Int)]) ∧ w = w' := read_is_b f b 0 x e z w (by omega) (Nat.zero_le _) h
set_option maxHeartbeats 800000 in
theorem decode_any_b (enc : Int) (b : ByteArray) (w : World) :
    Calls Try.prog 28 #[.int .i64 enc, .string b] w fun e w' => e = .returned (decVal (decodeV enc b)) ∧ Below w.heap.size w w' := by
  obtain ⟨f, hf⟩ : ∃ f, formV enc = f := ⟨_, rfl⟩
  have HF := Lib.hid hf
  by_cases f0 : f = 0
  · subst f0
    have hD : Hid (decodeV enc b = (0, 0, 1, 0)) := by show _ = _; unfold decodeV; rw [if_pos hf]
    clear hf
    go_enter Try.func28, Try.ntmps28
    go_wp2_with (go_at_call 47; refine (form_any _ _).mono ?_; rintro e w' ⟨rfl, rfl⟩; rw [HF.out])
    exact ret_map3 rfl rfl (Blk.new _ _ _) rfl ⟨dec_ret 0 0 1 0 _ hD.out, (Below.refl _ _).alloc (Nat.le_refl _) _⟩
  obtain ⟨⟨x, e, z⟩, hr⟩ : ∃ r, readV f b 0 = r := ⟨_, rfl⟩
  obtain ⟨x0, x1, z1, e0⟩ := readV_rng hr (Nat.zero_le _)
  have fe : (f == 0) = false := by rw [beq_eq_false_iff_ne]; exact f0
  have D0 : decodeV enc b = if e ≠ 0 then (0, 0, e, z) else if x < 9223372036854775808 then (x, 0, 0, z) else
      if (readV f b z).2.1 ≠ 0 then (0, 0, (readV f b z).2.1, (readV f b z).2.2) else if 9223372036854775808 ≤ (readV f b z).1 ∨ (readV f b z).1 = 0 then (0, 0, 20, z) else (x - 9223372036854775808, (readV f b z).1, 0, (readV f b z).2.2) := by
    unfold decodeV
    simp only [hf, if_neg f0, hr]
  have HR := Lib.hid hr
  by_cases he : e = 0
  · subst he
    rw [if_neg (by simp)] at D0
    by_cases hx : x < 9223372036854775808
    · rw [if_pos hx] at D0
      have HD := Lib.hid D0
      have A := and_top_lo x x0 hx
      clear D0 f0 hr hf e0
      go_enter Try.func28, Try.ntmps28
      go_wp2_with (first
        | (go_at_call 47; refine (form_any _ _).mono ?_; rintro e w' ⟨rfl, rfl⟩; rw [HF.out])
        | (go_at_call_of 52 (Value.int IntKind.i64 0); refine (read_is0_b _ _ _ _ _ _ HR.out).mono ?_; rintro e w' ⟨rfl, rfl⟩))
      exact ret_map3 rfl rfl (Blk.new _ _ _) rfl ⟨dec_ret x 0 0 z _ HD.out, (Below.refl _ _).alloc (Nat.le_refl _) _⟩
    rw [if_neg hx] at D0
    have A := and_top_hi x (by omega) x1
    have A2 := andNot_top x (by omega) x1
    have hz : z ≤ 100 := by have := (rd_ok f b _ _ _ _ _ hr).1; have : manyV f ≤ 16 := by unfold manyV; split <;> omega
                            omega
    obtain ⟨⟨y, e, u⟩, hr2⟩ : ∃ r, readV f b z = r := ⟨_, rfl⟩
    obtain ⟨y0, y1, u1, k0⟩ := readV_rng hr2 z1
    have HR2 := Lib.hid hr2
    rw [hr2] at D0
    simp only at D0
    by_cases he : e = 0
    · subst he
      rw [if_neg (by simp)] at D0
      by_cases hy : 9223372036854775808 ≤ y ∨ y = 0
      · rw [if_pos hy] at D0
        have HD := Lib.hid D0
        have HY := Lib.hid hy
        clear D0 f0 hr hf e0 hr2 hx k0 hy
        rcases HY.out with hy | hy
        · have B := and_top_hi y hy y1
          clear hy y0 y1 x0 x1
          go_enter Try.func28, Try.ntmps28
          go_wp2_with (first
            | (go_at_call 47; refine (form_any _ _).mono ?_; rintro e w' ⟨rfl, rfl⟩; rw [HF.out])
            | (go_at_call_of 52 (Value.int IntKind.i64 0); refine (read_is0_b _ _ _ _ _ _ HR.out).mono ?_; rintro e w' ⟨rfl, rfl⟩)
            | (go_at_call 52; refine (read_is_b _ _ _ _ _ _ _ hz z1 HR2.out).mono ?_; rintro e w' ⟨rfl, rfl⟩))
          exact ret_map3 rfl rfl (Blk.new _ _ _) rfl ⟨dec_ret 0 0 20 z _ HD.out, (Below.refl _ _).alloc (Nat.le_refl _) _⟩
        · subst hy
          have B := and_top_lo 0 (by omega) (by omega)
          clear y0 y1 x0 x1
          go_enter Try.func28, Try.ntmps28
          go_wp2_with (first
            | (go_at_call 47; refine (form_any _ _).mono ?_; rintro e w' ⟨rfl, rfl⟩; rw [HF.out])
            | (go_at_call_of 52 (Value.int IntKind.i64 0); refine (read_is0_b _ _ _ _ _ _ HR.out).mono ?_; rintro e w' ⟨rfl, rfl⟩)
            | (go_at_call 52; refine (read_is_b _ _ _ _ _ _ _ hz z1 HR2.out).mono ?_; rintro e w' ⟨rfl, rfl⟩))
          exact ret_map3 rfl rfl (Blk.new _ _ _) rfl ⟨dec_ret 0 0 20 z _ HD.out, (Below.refl _ _).alloc (Nat.le_refl _) _⟩
      · rw [if_neg hy] at D0
        have HD := Lib.hid D0
        have B := and_top_lo y y0 (by omega)
        have ye : (y == 0) = false := by rw [beq_eq_false_iff_ne]; omega
        clear D0 f0 hr hf e0 hr2 hx k0 hy y0 y1 x0 x1
        go_enter Try.func28, Try.ntmps28
        go_wp2_with (first
          | (go_at_call 47; refine (form_any _ _).mono ?_; rintro e w' ⟨rfl, rfl⟩; rw [HF.out])
          | (go_at_call_of 52 (Value.int IntKind.i64 0); refine (read_is0_b _ _ _ _ _ _ HR.out).mono ?_; rintro e w' ⟨rfl, rfl⟩)
          | (go_at_call 52; refine (read_is_b _ _ _ _ _ _ _ hz z1 HR2.out).mono ?_; rintro e w' ⟨rfl, rfl⟩))
        exact ret_map3 rfl rfl (Blk.new _ _ _) rfl ⟨dec_ret (x - 9223372036854775808) y 0 u _ HD.out, (Below.refl _ _).alloc (Nat.le_refl _) _⟩
    · rw [if_pos he] at D0
      have HD := Lib.hid D0
      have ee : (e == 0) = false := by rw [beq_eq_false_iff_ne]; exact he
      have ee' : (e != 0) = true := by rw [bne, ee]; rfl
      clear D0 f0 hr hf e0 hr2 hx k0 he y0 y1 x0 x1
      go_enter Try.func28, Try.ntmps28
      go_wp2_with (first
        | (go_at_call 47; refine (form_any _ _).mono ?_; rintro e w' ⟨rfl, rfl⟩; rw [HF.out])
        | (go_at_call_of 52 (Value.int IntKind.i64 0); refine (read_is0_b _ _ _ _ _ _ HR.out).mono ?_; rintro e w' ⟨rfl, rfl⟩)
        | (go_at_call 52; refine (read_is_b _ _ _ _ _ _ _ hz z1 HR2.out).mono ?_; rintro e w' ⟨rfl, rfl⟩))
      exact ret_map3 rfl rfl (Blk.new _ _ _) rfl ⟨dec_ret 0 0 e u _ HD.out, (Below.refl _ _).alloc (Nat.le_refl _) _⟩
  · rw [if_pos he] at D0
    have HD := Lib.hid D0
    have ee : (e == 0) = false := by rw [beq_eq_false_iff_ne]; exact he
    have ee' : (e != 0) = true := by rw [bne, ee]; rfl
    clear D0 f0 hr hf e0 he
    go_enter Try.func28, Try.ntmps28
    go_wp2_with (first
      | (go_at_call 47; refine (form_any _ _).mono ?_; rintro e w' ⟨rfl, rfl⟩; rw [HF.out])
      | (go_at_call_of 52 (Value.int IntKind.i64 0); refine (read_is0_b _ _ _ _ _ _ HR.out).mono ?_; rintro e w' ⟨rfl, rfl⟩))
    exact ret_map3 rfl rfl (Blk.new _ _ _) rfl ⟨dec_ret 0 0 e z _ HD.out, (Below.refl _ _).alloc (Nat.le_refl _) _⟩
end Go.Proofs.Ytieloocmkgficaa
