/-
  The document's sixteenth and read, each by its contract.
-/
import Derived.Test.YtieloocmkgficaaEncD
namespace Go.Proofs.Ytieloocmkgficaa
open Go.RowKit
set_option linter.unusedVariables false
set_option linter.unusedSimpArgs false
theorem fOf_ne (enc : Int) : fOf enc ≠ 1 := by unfold fOf; split <;> decide
theorem sixteenth_any (enc b : Int) (w : World) : Calls Try.prog 58 #[.int .i64 enc, .int .u8 b] w fun e w' => e = .returned (.int .i64 (worV (fOf enc) b)) ∧ w = w' := by
  go_enter Try.func58, Try.ntmps58
  go_wp2
  go_loop [5] (fun i => ∃ k : Nat, k ≤ 16 ∧ i = .int .i64 k ∧ Hid (∀ j : Int, 0 ≤ j → j < k → sgn (fOf enc) j ≠ b)) (fun i => 16 - (intOf i).toNat)
  case atStart => exact ⟨0, by omega, rfl, fun j h h' => by omega⟩
  case round =>
    obtain ⟨k, hk, rfl, hj⟩ := hrel
    by_cases hlt : k < 16
    · rcases Bool.eq_false_or_eq_true (sgn (fOf enc) k == b) with hs | hs
      · have HS := Lib.hid hs
        go_wp2_with (go_at_call 56; refine (char_any _ _ _ (by omega) (by omega)).mono ?_; rintro e w' ⟨rfl, rfl⟩)
        go_ret
        have e1 : worV (fOf enc) b = k := by rw [← (beq_iff_eq.1 HS.out), sgn_wor (fOf enc) k (by omega) (by omega)]
        exact ⟨by rw [e1]; rfl, rfl⟩
      · have HS := Lib.hid hs
        go_wp2_with (go_at_call 56; refine (char_any _ _ _ (by omega) (by omega)).mono ?_; rintro e w' ⟨rfl, rfl⟩)
        go_round
        case rel =>
          refine ⟨k + 1, by omega, by go_num, fun j h h' => ?_⟩
          by_cases e : j = k
          · rw [e]; exact beq_eq_false_iff_ne.1 HS.out
          · exact hj.out j h (by omega)
        case measure => simp [intOf]; omega
    · have e1 : worV (fOf enc) b = -1 := wor_no (fOf_ne enc) (fun j h h' => hj.out j h (by omega))
      have E1 := Lib.hid e1
      clear e1
      go_wp2
      go_ret
      exact ⟨by rw [E1.out]; rfl, rfl⟩
/-- A row whose m truths behind o are a number's. -/
def fill (r : List Bool) (o m x : Nat) : List Bool := (List.range 129).map (fun i => if o + 1 ≤ i ∧ i ≤ o + m then x.testBit (o + m - i) else r.getD i false)
theorem fill_len (r : List Bool) (o m x : Nat) : (fill r o m x).length = 129 := by simp [fill]
theorem fill_zero (r : List Bool) (o : Nat) (hr : r.length = 129) : fill r o 0 0 = r := by
  apply List.ext_getElem
  · rw [fill_len, hr]
  · intro i h1 h2
    simp only [fill, List.getElem_map, List.getElem_range]
    rw [if_neg (by omega), List.getD, List.getElem?_eq_getElem h2]; rfl
theorem fill_step (r : List Bool) (o m x : Nat) (v : Bool) (h : o + m + 1 < 129) : (fill r o m x).set (o + m + 1) v = fill r o (m + 1) (2 * x + v.toNat) := by
  have hv : v.toNat < 2 := by cases v <;> decide
  apply List.ext_getElem
  · rw [List.length_set, fill_len, fill_len]
  · intro i h1 h2
    rw [List.getElem_set]
    simp only [fill, List.getElem_map, List.getElem_range]
    by_cases e : o + m + 1 = i
    · subst e
      rw [if_pos rfl, if_pos (by omega), show o + (m + 1) - (o + m + 1) = 0 by omega, Nat.testBit_zero, Nat.mul_add_mod, Nat.mod_eq_of_lt hv]
      cases v <;> rfl
    · rw [if_neg e]
      by_cases c : o + 1 ≤ i ∧ i ≤ o + m
      · rw [if_pos c, if_pos (by omega), show o + (m + 1) - i = (o + m - i) + 1 by omega, Nat.testBit_succ, show (2 * x + v.toNat) / 2 = x by omega]
      · rw [if_neg c, if_neg (by omega)]
theorem fill_hN (r : List Bool) (o x : Nat) (h : o + 64 ≤ 128) (hx : x < 2 ^ 64) : hN (fill r o 64 x) o 64 = x := by
  apply Nat.eq_of_testBit_eq
  intro i
  by_cases hi : i < 64
  · rw [hN_bit _ _ _ _ hi]
    have hl : o + 64 - i < (fill r o 64 x).length := by rw [fill_len]; omega
    rw [List.getD, List.getElem?_eq_getElem hl, Option.getD_some]
    simp only [fill, List.getElem_map, List.getElem_range]
    rw [if_pos (by omega), show o + 64 - (o + 64 - i) = i by omega]
  · rw [Nat.testBit_lt_two_pow (Nat.lt_of_lt_of_le (hN_lt _ _ _) (Nat.pow_le_pow_right (by omega) (by omega))), Nat.testBit_lt_two_pow (Nat.lt_of_lt_of_le hx (Nat.pow_le_pow_right (by omega) (by omega)))]
/-- What read leaves behind. -/
def ReadPost (w : World) (g : Nat) (r : List Bool) (o : Nat) (X e : Int) (z : Nat) (v : Ending) (w' : World) : Prop :=
  v = .returned (.tuple #[.int .i64 e, .int .i64 (z : Int)]) ∧ w.grownBy w' (some g) ∧ ∃ q, q.length = 129 ∧ Blk w' g 40 (rowA q) ∧ (e = 0 → q = fill r o 64 X.toNat)
set_option maxRecDepth 100000 in
set_option maxHeartbeats 2000000 in
theorem rread_eight (g : Nat) (b : ByteArray) (at0 : Nat) (fr : Int) (ob : Nat) (r : List Bool) (X e : Int) (z : Nat) (hs : b.size ≤ 9223372036854775807) (h0 : at0 ≤ b.size) (hr : r.length = 129) (hfr : fr = (ob : Int) + 1) (ho : ob ≤ 64)
    (h : rd 1 b 8 0 at0 = (X, e, z)) (w : World) (hX : Blk w g 40 (rowA r)) :
    Calls Try.prog 53 #[.pointer (some ⟨g, 0, none⟩), .int .i64 5, .string b, .int .i64 (at0 : Int), .int .i64 fr] w (ReadPost w g r ob X e z) := by
  have HX0 := Lib.hid hX
  have HR := Lib.hid h
  have HL := Lib.hid hr
  have HFR := Lib.hid hfr
  have HO := Lib.hid ho
  have fr0 : 1 ≤ fr := by omega
  have fr1 : fr ≤ 65 := by omega
  have hz := fill_zero r ob hr
  have HZ := Lib.hid hz
  clear hX h hr hfr ho hz
  go_enter Try.func53, Try.ntmps53
  go_wp2
  go_loopw [3, 13] (fun a k wr => ∃ (j at_ x : Nat), j ≤ 8 ∧ k = .int .i64 (fr + 8 * (j : Int)) ∧ a = .int .i64 at_ ∧ at_ ≤ b.size ∧ Hid (x < 2 ^ (8 * j)) ∧ Hid (rd 1 b (8 - j) (x : Int) at_ = (X, e, z)) ∧ Blk wr g 40 (rowA (fill r ob (8 * j) x)) ∧ w.grownBy wr (some g)) (fun _ k _ => (fr + 64 - intOf k).toNat)
  case atStart => exact ⟨0, at0, 0, by omega, by simp, rfl, h0, Lib.hid (by decide), HR, by rw [Nat.mul_zero, HZ.out]; exact HX0.out, only_refl _ _⟩
  case round =>
    obtain ⟨j, at_, x, hj, rfl, rfl, ha, hx, hrd, hB, hG⟩ := hrel
    by_cases hlt : j < 8
    · obtain ⟨k, hk⟩ : ∃ k, fr + 8 * (j : Int) = k := ⟨_, rfl⟩
      have k0 : 1 ≤ k := by omega
      have k1 : k < fr + 64 := by omega
      have HK := Lib.hid hk
      rw [hk]
      have hk2 : Hid (k = ((ob + 8 * j : Nat) : Int) + 1) := by show _ = _; have := HFR.out; omega
      have kM : k ≤ 121 := by have := hk2.out; have := HO.out; omega
      clear hk
      have hn : 8 - j = (7 - j) + 1 := by omega
      by_cases he : at_ = b.size
      · have R : Hid ((0, 10, b.size) = (X, e, z)) := by
          show _ = _
          have := hrd.out
          rw [hn, rd_end0 _ b _ _ at_ he] at this
          rw [← this, he]
        have HB := Lib.hid hB
        have HQ := Lib.hid (fill_len r ob (8 * j) x)
        have ge : decide ((b.size : Int) ≤ (at_ : Int)) = true := decide_eq_true (by omega)
        clear hB hn
        subst he
        go_wp2
        go_ret2
        have R' := R.out
        simp only [Prod.mk.injEq] at R'
        obtain ⟨q1, q2, q3⟩ := R'
        exact ⟨by rw [← q2, ← q3]; rfl, hG, _, HQ.out, HB.out, fun h => by omega⟩
      · have hal : at_ < b.size := by omega
        have ge : decide ((b.size : Int) ≤ (at_ : Int)) = false := decide_eq_false (by omega)
        obtain ⟨c, hc⟩ : ∃ c, byt b at_ = c := ⟨_, rfl⟩
        have bg := byt_get b at_ hal
        rw [hc] at bg
        have bR := byt_rng b at_
        rw [hc] at bR
        obtain ⟨c0, c1⟩ := bR
        have hval : valV 1 (byt b at_) = c := by unfold valV; rw [if_pos rfl, hc]
        obtain ⟨vn, hvn⟩ := Int.eq_ofNat_of_zero_le c0
        subst hvn
        have hv16 : vn < 256 := by omega
        clear hc
        have R : Hid (rd 1 b (8 - (j + 1)) ((x * 256 + vn : Nat) : Int) (at_ + 1) = (X, e, z)) := by
          show _ = _
          have := hrd.out
          rw [hn, rd_go _ b _ _ at_ he (by rw [hval]; omega), hval] at this
          rw [show 8 - (j + 1) = 7 - j by omega, ← this]
          congr 1
          all_goals rfl
        have hx' : Hid (x * 256 + vn < 2 ^ (8 * (j + 1))) := by
          show _ < _
          have := hx.out
          rw [show 8 * (j + 1) = 8 * j + 8 by omega, Nat.pow_add]
          omega
        have dn : decide ((vn : Int) < 0) = false := decide_eq_false (by omega)
        clear hval hn hrd he
        go_wp2
        obtain ⟨wo, rfl⟩ : ∃ wo : World, wo = wr := ⟨_, rfl⟩
        go_loopw [15] (fun i wr => ∃ (t : Nat), t ≤ 8 ∧ i = .int .i64 t ∧ Blk wr g 40 (rowA (fill r ob (8 * j + t) (x * 2 ^ t + vn / 2 ^ (8 - t)))) ∧ w.grownBy wr (some g)) (fun i _ => 8 - (intOf i).toNat)
        case atStart => exact ⟨0, by omega, rfl, by rw [Nat.pow_zero, Nat.mul_one, Nat.add_zero, Nat.sub_zero, Nat.div_eq_of_lt (by simpa using hv16), Nat.add_zero]; exact hB, hG⟩
        case round =>
          obtain ⟨t, ht, rfl, hT, hH⟩ := hrel
          by_cases htl : t < 8
          · have hl : (fill r ob (8 * j + t) (x * 2 ^ t + vn / 2 ^ (8 - t))).length = 129 := fill_len _ _ _ _
            have kk : (k + (t : Int)).toNat = ob + (8 * j + t) + 1 := by have := hk2.out; omega
            have b0 : 0 ≤ k + (t : Int) := by omega
            have b1 : k + (t : Int) < 129 := by omega
            have y0 := (hT.cell (ob + (8 * j + t) + 1)).trans (rowA_get _ (ob + (8 * j + t) + 1) (by rw [hl]; omega))
            have yf := hT.frozen (ob + (8 * j + t) + 1)
            obtain ⟨v, hv⟩ : ∃ v : Bool, decide (vn / 2 ^ (7 - t) % 2 = 1) = v := ⟨_, rfl⟩
            have hstep : Hid ((fill r ob (8 * j + t) (x * 2 ^ t + vn / 2 ^ (8 - t))).set (ob + (8 * j + t) + 1) v = fill r ob (8 * j + (t + 1)) (x * 2 ^ (t + 1) + vn / 2 ^ (8 - (t + 1)))) := by
              show _ = _
              rw [fill_step _ _ _ _ _ (by omega)]
              congr 1
              have e1 : vn / 2 ^ (8 - t) = vn / 2 ^ (7 - t) / 2 := by
                rw [Nat.div_div_eq_div_mul, ← Nat.pow_succ]
                congr 2; omega
              have e2 : v.toNat = vn / 2 ^ (7 - t) % 2 := by
                rw [← hv]
                rcases Nat.mod_two_eq_zero_or_one (vn / 2 ^ (7 - t)) with h | h <;> rw [h] <;> rfl
              rw [e2, e1, show 8 - (t + 1) = 7 - t by omega, Nat.pow_succ]
              generalize vn / 2 ^ (7 - t) = u
              generalize 2 ^ t = y
              have : x * (y * 2) = 2 * (x * y) := by rw [← Nat.mul_assoc, Nat.mul_comm]
              omega
            have bv : (((vn : Int) / 2 ^ (7 - t)).tmod 2 == 1) = v := by
              rw [← hv]
              have e : ((vn : Int) / 2 ^ (7 - t)).tmod 2 = ((vn / 2 ^ (7 - t) % 2 : Nat) : Int) := by
                rw [Int.tmod_eq_emod_of_nonneg (Int.ediv_nonneg (by omega) (Int.pow_nonneg (by omega))), Int.natCast_emod, Int.natCast_ediv, Int.natCast_pow]; rfl
              rw [e, Bool.eq_iff_iff, beq_iff_eq, decide_eq_true_eq]
              omega
            have HT := Lib.hid hT
            clear hT hv
            go_wp2
            go_region
            all_goals
              go_wp2
              go_roundw
              case rel =>
                refine ⟨t + 1, by omega, by go_num, ?_, only_drew (only_own hH _)⟩
                have q := Blk.set_ HT.out (ob + (8 * j + t) + 1) (.bool v)
                rw [rowA_set, hstep.out] at q
                exact q.drew
              case measure => simp [intOf]; omega
          · have ht2 : t = 8 := by omega
            subst ht2
            have HT : Hid (Blk wr g 40 (rowA (fill r ob (8 * (j + 1)) (x * 256 + vn)))) := by
              show Blk _ _ _ _
              rw [Nat.sub_self, Nat.pow_zero, Nat.div_one] at hT
              exact hT
            clear hT
            go_wp2
            go_roundw
            case rel => exact ⟨j + 1, at_ + 1, x * 256 + vn, by omega, by rw [← HK.out]; go_num, by go_num, by omega, hx', R, HT.out, hH⟩
            case measure => simp [intOf]; omega
    · have hj2 : j = 8 := by omega
      subst hj2
      have R : Hid (((x : Int), (0 : Int), at_) = (X, e, z)) := hrd
      have HB := Lib.hid hB
      have HQ := Lib.hid (fill_len r ob (8 * 8) x)
      clear hB hrd
      go_wp2
      go_ret2
      have R' := R.out
      simp only [Prod.mk.injEq] at R'
      obtain ⟨q1, q2, q3⟩ := R'
      exact ⟨by rw [← q2, ← q3]; rfl, hG, _, HQ.out, HB.out, fun h => by rw [← q1]; rfl⟩
set_option maxRecDepth 100000 in
set_option maxHeartbeats 2000000 in
theorem rread_let (enc : Int) (he : enc ≠ 5) (g : Nat) (b : ByteArray) (at0 : Nat) (fr : Int) (ob : Nat) (r : List Bool) (X e : Int) (z : Nat) (hs : b.size ≤ 9223372036854775807) (h0 : at0 ≤ b.size) (hr : r.length = 129) (hfr : fr = (ob : Int) + 1) (ho : ob ≤ 64)
    (h : rd (fOf enc) b 16 0 at0 = (X, e, z)) (w : World) (hX : Blk w g 40 (rowA r)) :
    Calls Try.prog 53 #[.pointer (some ⟨g, 0, none⟩), .int .i64 enc, .string b, .int .i64 (at0 : Int), .int .i64 fr] w (ReadPost w g r ob X e z) := by
  have e5 : (enc == 5) = false := by rw [beq_eq_false_iff_ne]; exact he
  clear he
  have HX0 := Lib.hid hX
  have HR := Lib.hid h
  have HL := Lib.hid hr
  have HFR := Lib.hid hfr
  have HO := Lib.hid ho
  have fr0 : 1 ≤ fr := by omega
  have fr1 : fr ≤ 65 := by omega
  have hz := fill_zero r ob hr
  have HZ := Lib.hid hz
  clear hX h hr hfr ho hz
  go_enter Try.func53, Try.ntmps53
  go_wp2
  go_loopw [3, 13] (fun a k wr => ∃ (j at_ x : Nat), j ≤ 16 ∧ k = .int .i64 (fr + 4 * (j : Int)) ∧ a = .int .i64 at_ ∧ at_ ≤ b.size ∧ Hid (x < 2 ^ (4 * j)) ∧ Hid (rd (fOf enc) b (16 - j) (x : Int) at_ = (X, e, z)) ∧ Blk wr g 40 (rowA (fill r ob (4 * j) x)) ∧ w.grownBy wr (some g)) (fun _ k _ => (fr + 64 - intOf k).toNat)
  case atStart => exact ⟨0, at0, 0, by omega, by simp, rfl, h0, Lib.hid (by decide), HR, by rw [Nat.mul_zero, HZ.out]; exact HX0.out, only_refl _ _⟩
  case round =>
    obtain ⟨j, at_, x, hj, rfl, rfl, ha, hx, hrd, hB, hG⟩ := hrel
    by_cases hlt : j < 16
    · obtain ⟨k, hk⟩ : ∃ k, fr + 4 * (j : Int) = k := ⟨_, rfl⟩
      have k0 : 1 ≤ k := by omega
      have k1 : k < fr + 64 := by omega
      have HK := Lib.hid hk
      rw [hk]
      have hk2 : Hid (k = ((ob + 4 * j : Nat) : Int) + 1) := by show _ = _; have := HFR.out; omega
      have kM : k ≤ 125 := by have := hk2.out; have := HO.out; omega
      clear hk
      have hn : 16 - j = (15 - j) + 1 := by omega
      by_cases he : at_ = b.size
      · have R : Hid ((0, 10, b.size) = (X, e, z)) := by
          show _ = _
          have := hrd.out
          rw [hn, rd_end0 _ b _ _ at_ he] at this
          rw [← this, he]
        have HB := Lib.hid hB
        have HQ := Lib.hid (fill_len r ob (4 * j) x)
        have ge : decide ((b.size : Int) ≤ (at_ : Int)) = true := decide_eq_true (by omega)
        clear hB hn
        subst he
        go_wp2
        go_ret2
        have R' := R.out
        simp only [Prod.mk.injEq] at R'
        obtain ⟨q1, q2, q3⟩ := R'
        exact ⟨by rw [← q2, ← q3]; rfl, hG, _, HQ.out, HB.out, fun h => by omega⟩
      · have hal : at_ < b.size := by omega
        have ge : decide ((b.size : Int) ≤ (at_ : Int)) = false := decide_eq_false (by omega)
        obtain ⟨c, hc⟩ : ∃ c, byt b at_ = c := ⟨_, rfl⟩
        have bg := byt_get b at_ hal
        rw [hc] at bg
        have bR := byt_rng b at_
        rw [hc] at bR
        obtain ⟨c0, c1⟩ := bR
        have hvr := wor_rng (fOf enc) c
        obtain ⟨v, hv⟩ : ∃ v, worV (fOf enc) c = v := ⟨_, rfl⟩
        have hval : valV (fOf enc) (byt b at_) = v := by unfold valV; rw [if_neg (fOf_ne enc), hc, hv]
        rw [hv] at hvr
        obtain ⟨v0, v1⟩ := hvr
        have HV := Lib.hid hv
        clear hv hc
        by_cases hneg : v < 0
        · have R : Hid ((0, 11, at_) = (X, e, z)) := by
            show _ = _
            have := hrd.out
            rwa [hn, rd_bad _ b _ _ at_ he (by rw [hval]; exact hneg)] at this
          have HB := Lib.hid hB
          have HQ := Lib.hid (fill_len r ob (4 * j) x)
          have dn : decide (v < 0) = true := decide_eq_true hneg
          clear hB hn hval he
          go_wp2_with (go_at_call 58; refine (sixteenth_any _ _ _).mono ?_; rintro e w' ⟨rfl, rfl⟩; rw [HV.out])
          go_ret2
          have R' := R.out
          simp only [Prod.mk.injEq] at R'
          obtain ⟨q1, q2, q3⟩ := R'
          exact ⟨by rw [← q2, ← q3]; rfl, hG, _, HQ.out, HB.out, fun h => by omega⟩
        obtain ⟨vn, hvn⟩ := Int.eq_ofNat_of_zero_le (show 0 ≤ v by omega)
        subst hvn
        have hv16 : vn < 16 := by omega
        have R : Hid (rd (fOf enc) b (16 - (j + 1)) ((x * 16 + vn : Nat) : Int) (at_ + 1) = (X, e, z)) := by
          show _ = _
          have := hrd.out
          rw [hn, rd_go _ b _ _ at_ he (by rw [hval]; omega), hval] at this
          rw [show 16 - (j + 1) = 15 - j by omega, ← this]
          congr 1
          show ((x * 16 + vn : Nat) : Int) = (x : Int) * baseV (fOf enc) + _; unfold baseV; rw [if_neg (fOf_ne enc)]; omega
        have hx' : Hid (x * 16 + vn < 2 ^ (4 * (j + 1))) := by
          show _ < _
          have := hx.out
          rw [show 4 * (j + 1) = 4 * j + 4 by omega, Nat.pow_add]
          omega
        have dn : decide ((vn : Int) < 0) = false := decide_eq_false (by omega)
        clear hval hn hrd he
        go_wp2_with (go_at_call 58; refine (sixteenth_any _ _ _).mono ?_; rintro e w' ⟨rfl, rfl⟩; rw [HV.out])
        obtain ⟨wo, rfl⟩ : ∃ wo : World, wo = wr := ⟨_, rfl⟩
        go_loopw [15] (fun i wr => ∃ (t : Nat), t ≤ 4 ∧ i = .int .i64 t ∧ Blk wr g 40 (rowA (fill r ob (4 * j + t) (x * 2 ^ t + vn / 2 ^ (4 - t)))) ∧ w.grownBy wr (some g)) (fun i _ => 4 - (intOf i).toNat)
        case atStart => exact ⟨0, by omega, rfl, by rw [Nat.pow_zero, Nat.mul_one, Nat.add_zero, Nat.sub_zero, Nat.div_eq_of_lt (by simpa using hv16), Nat.add_zero]; exact hB, hG⟩
        case round =>
          obtain ⟨t, ht, rfl, hT, hH⟩ := hrel
          by_cases htl : t < 4
          · have hl : (fill r ob (4 * j + t) (x * 2 ^ t + vn / 2 ^ (4 - t))).length = 129 := fill_len _ _ _ _
            have kk : (k + (t : Int)).toNat = ob + (4 * j + t) + 1 := by have := hk2.out; omega
            have b0 : 0 ≤ k + (t : Int) := by omega
            have b1 : k + (t : Int) < 129 := by omega
            have y0 := (hT.cell (ob + (4 * j + t) + 1)).trans (rowA_get _ (ob + (4 * j + t) + 1) (by rw [hl]; omega))
            have yf := hT.frozen (ob + (4 * j + t) + 1)
            obtain ⟨v, hv⟩ : ∃ v : Bool, decide (vn / 2 ^ (3 - t) % 2 = 1) = v := ⟨_, rfl⟩
            have hstep : Hid ((fill r ob (4 * j + t) (x * 2 ^ t + vn / 2 ^ (4 - t))).set (ob + (4 * j + t) + 1) v = fill r ob (4 * j + (t + 1)) (x * 2 ^ (t + 1) + vn / 2 ^ (4 - (t + 1)))) := by
              show _ = _
              rw [fill_step _ _ _ _ _ (by omega)]
              congr 1
              have e1 : vn / 2 ^ (4 - t) = vn / 2 ^ (3 - t) / 2 := by
                rw [Nat.div_div_eq_div_mul, ← Nat.pow_succ]
                congr 2; omega
              have e2 : v.toNat = vn / 2 ^ (3 - t) % 2 := by
                rw [← hv]
                rcases Nat.mod_two_eq_zero_or_one (vn / 2 ^ (3 - t)) with h | h <;> rw [h] <;> rfl
              rw [e2, e1, show 4 - (t + 1) = 3 - t by omega, Nat.pow_succ]
              generalize vn / 2 ^ (3 - t) = u
              generalize 2 ^ t = y
              have : x * (y * 2) = 2 * (x * y) := by rw [← Nat.mul_assoc, Nat.mul_comm]
              omega
            have bv : (((vn : Int) / 2 ^ (3 - t)).tmod 2 == 1) = v := by
              rw [← hv]
              have e : ((vn : Int) / 2 ^ (3 - t)).tmod 2 = ((vn / 2 ^ (3 - t) % 2 : Nat) : Int) := by
                rw [Int.tmod_eq_emod_of_nonneg (Int.ediv_nonneg (by omega) (Int.pow_nonneg (by omega))), Int.natCast_emod, Int.natCast_ediv, Int.natCast_pow]; rfl
              rw [e, Bool.eq_iff_iff, beq_iff_eq, decide_eq_true_eq]
              omega
            have HT := Lib.hid hT
            clear hT hv
            go_wp2
            go_region
            all_goals
              go_wp2
              go_roundw
              case rel =>
                refine ⟨t + 1, by omega, by go_num, ?_, only_drew (only_own hH _)⟩
                have q := Blk.set_ HT.out (ob + (4 * j + t) + 1) (.bool v)
                rw [rowA_set, hstep.out] at q
                exact q.drew
              case measure => simp [intOf]; omega
          · have ht2 : t = 4 := by omega
            subst ht2
            have HT : Hid (Blk wr g 40 (rowA (fill r ob (4 * (j + 1)) (x * 16 + vn)))) := by
              show Blk _ _ _ _
              rw [Nat.sub_self, Nat.pow_zero, Nat.div_one] at hT
              exact hT
            clear hT
            go_wp2
            go_roundw
            case rel => exact ⟨j + 1, at_ + 1, x * 16 + vn, by omega, by rw [← HK.out]; go_num, by go_num, by omega, hx', R, HT.out, hH⟩
            case measure => simp [intOf]; omega
    · have hj2 : j = 16 := by omega
      subst hj2
      have R : Hid (((x : Int), (0 : Int), at_) = (X, e, z)) := hrd
      have HB := Lib.hid hB
      have HQ := Lib.hid (fill_len r ob (4 * 16) x)
      clear hB hrd
      go_wp2
      go_ret2
      have R' := R.out
      simp only [Prod.mk.injEq] at R'
      obtain ⟨q1, q2, q3⟩ := R'
      exact ⟨by rw [← q2, ← q3]; rfl, hG, _, HQ.out, HB.out, fun h => by rw [← q1]; rfl⟩
end Go.Proofs.Ytieloocmkgficaa
