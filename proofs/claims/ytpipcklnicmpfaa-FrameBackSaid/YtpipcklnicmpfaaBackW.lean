/-
  FrameBack: the walk.
-/
import Derived.Test.YtpipcklnicmpfaaBackP
namespace Go.Proofs.Ytpipcklnicmpfaa
open Go.RowKit
set_option linter.unusedVariables false
set_option linter.unusedSimpArgs false
theorem new_apart (w : World) (o : Obj) : (w.alloc o).heap.size = w.heap.size + 1 := by simp
set_option maxRecDepth 100000 in
set_option maxHeartbeats 4000000 in
theorem back_run (hd : Int) (h1 : -9223372036854775808 ≤ hd) (h2 : hd ≤ 9223372036854775807) (md : Int) (m1 : -9223372036854775808 ≤ md) (m2 : md ≤ 9223372036854775807)
    (A1 : Option Addr) (n1 c1 : Nat) (ss : List Bys) (hn1 : ss.length = n1) (A2 : Option Addr) (n2 c2 : Nat) (ys : List Bool) (hn2 : ys.length = n2) (A3 : Option Addr) (n3 c3 : Nat) (zs : List Int) (hn3 : zs.length = n3)
    (hb1 : n1 ≤ 9223372036854775807) (hb2 : n2 ≤ 9223372036854775807) (hb3 : n3 ≤ 9223372036854775807)
    (P Q : Int) (hP : pickV hd 4 = P) (hQ : pickV md 9999 = Q) (w : World) (hI1 : Strs w w.heap.size A1 ss) (hI2 : Bools w w.heap.size A2 ys) (hI3 : Ints w w.heap.size A3 zs) :
    Calls Try.prog 4 #[.int .i64 hd, .int .i64 md, .slice A1 n1 c1, .slice A2 n2 c2, .slice A3 n3 c3] w fun e w' => e = .returned (.bool true) ∧ Below w.heap.size w w' := by
  obtain ⟨p1, p2⟩ := pick_rng hd 4 (by omega)
  obtain ⟨q1, q2⟩ := pick_rng md 9999 (by omega)
  rw [hP] at p1 p2
  rw [hQ] at q1 q2
  have hmay : mayB (1 + P) (1 + Q) = true := by unfold mayB; simp; omega
  have QN : Hid (∀ w, Calls Try.prog 12 #[.int .i64 (1 + P), .int .i64 (1 + Q)] w fun v w' => v = .returned (.tuple #[.pointer (some ⟨w.heap.size, 0, none⟩), .int .i64 0]) ∧ w' = w.alloc (.cells #[.int .i64 (1 + P), .int .i64 (1 + Q), .slice none 0 0, .int .i64 0, .int .i64 0] 70)) := Lib.hid fun w => new_right _ _ w hmay
  have HP := Lib.hid hP
  have HQ := Lib.hid hQ
  have HI1 := Lib.hid hI1
  have HI2 := Lib.hid hI2
  have HI3 := Lib.hid hI3
  have HN1 := Lib.hid hn1
  have HN2 := Lib.hid hn2
  have HN3 := Lib.hid hn3
  have HY := Lib.hid hmay
  obtain ⟨i9, hi9, hj0, hj1, hj2⟩ := info_parts Try.info9
  clear hP hQ hI1 hI2 hI3 hn1 hn2 hn3 hmay
  have TK0 := Lib.hid True.intro
  go_enter Try.func4, Try.ntmps4
  go_wp2_with (first
    | (have tk := TK0; go_at_call 8; refine (examples_ok _).mono ?_; rintro e w1 ⟨rfl, hb1⟩; have HB1 := Lib.hid hb1; have hz1 := hb1.size; clear hb1; clear tk TK0; have TK1 := Lib.hid True.intro)
    | (have tk := TK1; go_at_call 11; refine (pick_any _ _ _ (by omega) (by omega) (by omega) (by omega)).mono ?_; rintro e w' ⟨rfl, rfl⟩; rw [HP.out]; clear tk TK1; have TK2 := Lib.hid True.intro)
    | (have tk := TK2; go_at_call 11; refine (pick_any _ _ _ (by omega) (by omega) (by omega) (by omega)).mono ?_; rintro e w' ⟨rfl, rfl⟩; rw [HQ.out]; clear tk TK2; have TK3 := Lib.hid True.intro)
    | (have tk := TK3; go_at_call 12; refine (QN.out _).mono ?_; rintro e w' ⟨rfl, rfl⟩; have S0 := Lib.hid (strm_new w.heap.size w1 (1 + P) (1 + Q) hz1); have B0 := Lib.hid (HB1.out.alloc hz1 (.cells #[.int .i64 (1 + P), .int .i64 (1 + Q), .slice none 0 0, .int .i64 0, .int .i64 0] 70)); clear tk TK3))
  have F0 := Lib.hid (BI.start w _ w.heap.size w1.heap.size (1 + P) (1 + Q) S0.out (by simp) B0.out B0.out.size)
  simp only [World.size_alloc] at F0
  go_loopw [16, 17, 18, 19] (fun s o g i wr => ∃ (k sg : Nat) (S : Bys) (ms : List Bys) (out : Value), k ≤ n1 ∧ k ≤ 40 ∧ i = .int .i64 k ∧ s = .string (bstr S) ∧ o = out ∧ g = .int .i64 sg ∧ Hid (BI w wr w.heap.size (w1.heap.size + 1) w1.heap.size (1 + P) (1 + Q) k S ms sg out)) (fun _ _ _ i _ => 40 - (intOf i).toNat)
  case atStart => exact ⟨0, 0, [], [], _, by omega, by omega, rfl, rfl, rfl, rfl, F0⟩
  case round =>
    clear F0 S0 B0
    obtain ⟨k, sg, S, ms, out, hk, hk40, rfl, rfl, rfl, rfl, HF⟩ := hrel
    by_cases hround : k < n1 ∧ k < 40
    · obtain ⟨hlt, hl40⟩ := hround
      have d0 : decide ((k : Int) < (n1 : Int)) = true := decide_eq_true (by omega)
      have d40 : decide ((k : Int) < 40) = true := decide_eq_true (by omega)
      have z0 : (k : Int) < (n1 : Int) := by omega
      obtain ⟨b, off, rfl, hbl, hcs, hYl⟩ := HI1.out k (by rw [HN1.out]; exact hlt)
      have hcx : wr.cell? ⟨b, off + k, none⟩ = some (.string (bstr (ss.getD k []))) := (HF.out.bel.cell (p := ⟨b, off + k, none⟩) hbl).trans hcs
      clear hcs
      obtain ⟨Y, hYe⟩ : ∃ Y, ss.getD k [] = Y := ⟨_, rfl⟩
      rw [hYe] at hcx hYl
      clear hYe
      have hYs := bstr_size Y
      have hsg := HF.out.signs
      have hmn := HF.out.many
      have hgl := HF.out.hg
      have hSs := bstr_size S
      have hSl : S.length ≤ 800000 := Nat.le_trans HF.out.len (bnd_le (by omega))
      by_cases hk2 : k < n2
      · have d2 : decide ((k : Int) < (n2 : Int)) = true := decide_eq_true (by omega)
        have z2 : (k : Int) < (n2 : Int) := by omega
        obtain ⟨b2, off2, rfl, hbl2, hcs2⟩ := HI2.out k (by rw [HN2.out]; exact hk2)
        have hcx2 : wr.cell? ⟨b2, off2 + k, none⟩ = some (.bool (ys.getD k false)) := (HF.out.bel.cell (p := ⟨b2, off2 + k, none⟩) hbl2).trans hcs2
        clear hcs2
        cases hfl : ys.getD k false
        · rw [hfl] at hcx2
          clear hfl
          obtain ⟨S1, hS1⟩ : ∃ S1, S = S1 := ⟨_, rfl⟩
          have HS1 := Lib.hid hS1
          subst hS1
          have hS1l : (bstr S).size ≤ 800004 := by rw [bstr_size]; omega
          by_cases hc : Y.length = 0
          · have hW : wrapE (1 + P) (1 + Q) Y.length = 142 := by unfold wrapE; rw [HY.out, if_neg (by simp), if_pos hc]
            have e1 : (bstr Y).toList.isEmpty = true := str_nil hc
            have dM : decide ((1 + Q) < (Y.length : Int)) = false := decide_eq_false (by omega)
            have dL : ((Y.length : Int) ≤ 1 + Q) := by omega
            have QW : Hid (∀ w, Calls Try.prog 9 #[.int .i64 (1 + P), .int .i64 (1 + Q), .string (bstr Y)] w fun v w' => v = .returned (.tuple #[.string ByteArray.empty, .int .i64 142]) ∧ Below w.heap.size w w') := Lib.hid fun w => by
              have q := wrap_any (1 + P) (1 + Q) (bstr Y) (by rw [bstr_size]; exact hYl) w
              unfold wrapW wrapB at q
              rw [bstr_size, hW, if_neg (by decide)] at q
              exact q
            clear hW
            clear hc
            go_wp2_with (first
                | (go_at_call 9; refine (QW.out _).mono ?_; rintro e w2 ⟨rfl, hb⟩; have hx1 := (hb.cell (p := ⟨b, off + k, none⟩) (Nat.lt_of_lt_of_le hbl HF.out.hB)).trans hcx; have HF2 := Lib.hid (HF.out.below hb); have hlow := HF2.out.low; have hown := HF2.out.own; have hmany := HF2.out.many; clear hb))
            go_roundw
            case rel =>
              have q := HF2.out.skip (by omega) false
              simp only [Bool.false_eq_true, if_false] at q
              skip
              exact ⟨k + 1, sg  , S, _, _, by omega, by omega, by go_num, rfl, rfl, rfl, Lib.hid q⟩
            case measure => simp [intOf]; omega
          · by_cases hM : (1 + Q) < (Y.length : Int)
            · have hW : wrapE (1 + P) (1 + Q) Y.length = 141 := by unfold wrapE; rw [HY.out, if_neg (by simp), if_neg hc, if_pos hM]
              have e1 : (bstr Y).toList.isEmpty = false := str_ne hc
              have dM : decide ((1 + Q) < (Y.length : Int)) = true := decide_eq_true hM
              have dL : decide ((Y.length : Int) ≤ 1 + Q) = false := decide_eq_false (by omega)
              have QW : Hid (∀ w, Calls Try.prog 9 #[.int .i64 (1 + P), .int .i64 (1 + Q), .string (bstr Y)] w fun v w' => v = .returned (.tuple #[.string ByteArray.empty, .int .i64 141]) ∧ Below w.heap.size w w') := Lib.hid fun w => by
                have q := wrap_any (1 + P) (1 + Q) (bstr Y) (by rw [bstr_size]; exact hYl) w
                unfold wrapW wrapB at q
                rw [bstr_size, hW, if_neg (by decide)] at q
                exact q
              clear hW
              clear hc
              go_wp2_with (first
                  | (go_at_call 9; refine (QW.out _).mono ?_; rintro e w2 ⟨rfl, hb⟩; have hx1 := (hb.cell (p := ⟨b, off + k, none⟩) (Nat.lt_of_lt_of_le hbl HF.out.hB)).trans hcx; have HF2 := Lib.hid (HF.out.below hb); have hlow := HF2.out.low; have hown := HF2.out.own; have hmany := HF2.out.many; clear hb))
              go_roundw
              case rel =>
                have q := HF2.out.skip (by omega) false
                simp only [Bool.false_eq_true, if_false] at q
                skip
                exact ⟨k + 1, sg  , S, _, _, by omega, by omega, by go_num, rfl, rfl, rfl, Lib.hid q⟩
              case measure => simp [intOf]; omega
            · have hW : wrapE (1 + P) (1 + Q) Y.length = 0 := by unfold wrapE; rw [HY.out, if_neg (by simp), if_neg hc, if_neg hM]
              have e1 : (bstr Y).toList.isEmpty = false := str_ne hc
              have dM : decide ((1 + Q) < (Y.length : Int)) = false := decide_eq_false hM
              have dL : decide ((Y.length : Int) ≤ 1 + Q) = true := decide_eq_true (by omega)
              obtain ⟨W1, hW1⟩ : ∃ W1, hdrV (1 + P) Y.length ++ Y = W1 := ⟨_, rfl⟩
              have hWl : (bstr W1).size ≤ 10003 := by rw [bstr_size, ← hW1, List.length_append, hdr_len]; have := hsz_pos (1 + P); omega
              obtain ⟨S2, hS2⟩ : ∃ S2, S ++ W1 = S2 := ⟨_, rfl⟩
              have hcat2 : bstr S ++ bstr W1 = bstr S2 := by rw [bstr_append, hS2]
              have QW : Hid (∀ w, Calls Try.prog 9 #[.int .i64 (1 + P), .int .i64 (1 + Q), .string (bstr Y)] w fun v w' => v = .returned (.tuple #[.string (bstr W1), .int .i64 0]) ∧ Below w.heap.size w w') := Lib.hid fun w => by
                have q := wrap_any (1 + P) (1 + Q) (bstr Y) (by rw [bstr_size]; exact hYl) w
                unfold wrapW wrapB at q
                rw [bstr_size, hW, if_pos rfl, bstr_append, hW1] at q
                exact q
              have HC := Lib.hid hc
              have HW1 := Lib.hid hW1
              have HS2 := Lib.hid hS2
              clear hW hW1 hS2
              clear hc
              go_wp2_with (first
                  | (go_at_call 9; refine (QW.out _).mono ?_; rintro e w2 ⟨rfl, hb⟩; have hx1 := (hb.cell (p := ⟨b, off + k, none⟩) (Nat.lt_of_lt_of_le hbl HF.out.hB)).trans hcx; have HF2 := Lib.hid (HF.out.below hb); have hlow := HF2.out.low; have hown := HF2.out.own; have hmany := HF2.out.many; clear hb)
                  | (at_builtin; refine wpList_append_own _ rfl _ _ 27 rfl (w1.heap.size + 1) 9 i9 (.string ByteArray.empty) 1 16 Try.underlying27 hi9 hj0 hj1 hj2 rfl (by decide) _ _ _ rfl (hown.alloc _) ⟨w2.heap.size, 0, none⟩ 1 1 [.string (bstr Y)] rfl rfl (cell_one_new _ _ _) (by simp [Value.oneCell']) (by unfold maxLen; omega) (by omega) (by simp; omega) ?_; intro v3 w3 hown3 hgrow3 _; have HF3 := Lib.hid (HF2.out.wrap (by omega) (by omega) false (y := Y) (Nat.pos_of_ne_zero HC.out) (by omega) hgrow3 hown3); clear hown hown3 hgrow3))
              go_roundw
              case rel =>
                have q := HF3.out
                simp only [Bool.false_eq_true, if_false] at q
                rw [HW1.out, HS2.out] at q
                exact ⟨k + 1, sg, S2, _, _, by omega, by omega, by go_num, rfl, rfl, rfl, Lib.hid q⟩
              case measure => simp [intOf]; omega
        · rw [hfl] at hcx2
          clear hfl
          obtain ⟨S1, hS1⟩ : ∃ S1, S ++ hdrV (1 + P) 0 = S1 := ⟨_, rfl⟩
          have hcat : bstr S ++ bstr (hdrV (1 + P) 0) = bstr S1 := by rw [bstr_append, hS1]
          have hhl : (bstr (hdrV (1 + P) 0)).size ≤ 4 := by rw [bstr_size, hdr_len]; exact (hsz_pos _).2
          have hS1l : (bstr S1).size ≤ 800004 := by rw [bstr_size, ← hS1, List.length_append, hdr_len]; have := (hsz_pos (1 + P)).2; omega
          have HS1 := Lib.hid hS1
          clear hS1
          by_cases hc : Y.length = 0
          · have hW : wrapE (1 + P) (1 + Q) Y.length = 142 := by unfold wrapE; rw [HY.out, if_neg (by simp), if_pos hc]
            have e1 : (bstr Y).toList.isEmpty = true := str_nil hc
            have dM : decide ((1 + Q) < (Y.length : Int)) = false := decide_eq_false (by omega)
            have dL : ((Y.length : Int) ≤ 1 + Q) := by omega
            have QW : Hid (∀ w, Calls Try.prog 9 #[.int .i64 (1 + P), .int .i64 (1 + Q), .string (bstr Y)] w fun v w' => v = .returned (.tuple #[.string ByteArray.empty, .int .i64 142]) ∧ Below w.heap.size w w') := Lib.hid fun w => by
              have q := wrap_any (1 + P) (1 + Q) (bstr Y) (by rw [bstr_size]; exact hYl) w
              unfold wrapW wrapB at q
              rw [bstr_size, hW, if_neg (by decide)] at q
              exact q
            clear hW
            clear hc
            go_wp2_with (first
                | (go_at_call 9; refine (QW.out _).mono ?_; rintro e w2 ⟨rfl, hb⟩; have hx1 := (hb.cell (p := ⟨b, off + k, none⟩) (Nat.lt_of_lt_of_le hbl HF.out.hB)).trans hcx; have HF2 := Lib.hid (HF.out.below hb); have hlow := HF2.out.low; have hown := HF2.out.own; have hmany := HF2.out.many; clear hb)
                | (go_at_call 13; refine (sign_any _ (by omega) (by omega) _).mono ?_; rintro e w' ⟨rfl, rfl⟩))
            go_roundw
            case rel =>
              have q := HF2.out.skip (by omega) true
              simp only [if_true] at q
              rw [HS1.out] at q
              exact ⟨k + 1, sg + 1, S1, _, _, by omega, by omega, by go_num, rfl, rfl, by go_num, Lib.hid q⟩
            case measure => simp [intOf]; omega
          · by_cases hM : (1 + Q) < (Y.length : Int)
            · have hW : wrapE (1 + P) (1 + Q) Y.length = 141 := by unfold wrapE; rw [HY.out, if_neg (by simp), if_neg hc, if_pos hM]
              have e1 : (bstr Y).toList.isEmpty = false := str_ne hc
              have dM : decide ((1 + Q) < (Y.length : Int)) = true := decide_eq_true hM
              have dL : decide ((Y.length : Int) ≤ 1 + Q) = false := decide_eq_false (by omega)
              have QW : Hid (∀ w, Calls Try.prog 9 #[.int .i64 (1 + P), .int .i64 (1 + Q), .string (bstr Y)] w fun v w' => v = .returned (.tuple #[.string ByteArray.empty, .int .i64 141]) ∧ Below w.heap.size w w') := Lib.hid fun w => by
                have q := wrap_any (1 + P) (1 + Q) (bstr Y) (by rw [bstr_size]; exact hYl) w
                unfold wrapW wrapB at q
                rw [bstr_size, hW, if_neg (by decide)] at q
                exact q
              clear hW
              clear hc
              go_wp2_with (first
                  | (go_at_call 9; refine (QW.out _).mono ?_; rintro e w2 ⟨rfl, hb⟩; have hx1 := (hb.cell (p := ⟨b, off + k, none⟩) (Nat.lt_of_lt_of_le hbl HF.out.hB)).trans hcx; have HF2 := Lib.hid (HF.out.below hb); have hlow := HF2.out.low; have hown := HF2.out.own; have hmany := HF2.out.many; clear hb)
                  | (go_at_call 13; refine (sign_any _ (by omega) (by omega) _).mono ?_; rintro e w' ⟨rfl, rfl⟩))
              go_roundw
              case rel =>
                have q := HF2.out.skip (by omega) true
                simp only [if_true] at q
                rw [HS1.out] at q
                exact ⟨k + 1, sg + 1, S1, _, _, by omega, by omega, by go_num, rfl, rfl, by go_num, Lib.hid q⟩
              case measure => simp [intOf]; omega
            · have hW : wrapE (1 + P) (1 + Q) Y.length = 0 := by unfold wrapE; rw [HY.out, if_neg (by simp), if_neg hc, if_neg hM]
              have e1 : (bstr Y).toList.isEmpty = false := str_ne hc
              have dM : decide ((1 + Q) < (Y.length : Int)) = false := decide_eq_false hM
              have dL : decide ((Y.length : Int) ≤ 1 + Q) = true := decide_eq_true (by omega)
              obtain ⟨W1, hW1⟩ : ∃ W1, hdrV (1 + P) Y.length ++ Y = W1 := ⟨_, rfl⟩
              have hWl : (bstr W1).size ≤ 10003 := by rw [bstr_size, ← hW1, List.length_append, hdr_len]; have := hsz_pos (1 + P); omega
              obtain ⟨S2, hS2⟩ : ∃ S2, S1 ++ W1 = S2 := ⟨_, rfl⟩
              have hcat2 : bstr S1 ++ bstr W1 = bstr S2 := by rw [bstr_append, hS2]
              have QW : Hid (∀ w, Calls Try.prog 9 #[.int .i64 (1 + P), .int .i64 (1 + Q), .string (bstr Y)] w fun v w' => v = .returned (.tuple #[.string (bstr W1), .int .i64 0]) ∧ Below w.heap.size w w') := Lib.hid fun w => by
                have q := wrap_any (1 + P) (1 + Q) (bstr Y) (by rw [bstr_size]; exact hYl) w
                unfold wrapW wrapB at q
                rw [bstr_size, hW, if_pos rfl, bstr_append, hW1] at q
                exact q
              have HC := Lib.hid hc
              have HW1 := Lib.hid hW1
              have HS2 := Lib.hid hS2
              clear hW hW1 hS2
              clear hc
              go_wp2_with (first
                  | (go_at_call 9; refine (QW.out _).mono ?_; rintro e w2 ⟨rfl, hb⟩; have hx1 := (hb.cell (p := ⟨b, off + k, none⟩) (Nat.lt_of_lt_of_le hbl HF.out.hB)).trans hcx; have HF2 := Lib.hid (HF.out.below hb); have hlow := HF2.out.low; have hown := HF2.out.own; have hmany := HF2.out.many; clear hb)
                  | (go_at_call 13; refine (sign_any _ (by omega) (by omega) _).mono ?_; rintro e w' ⟨rfl, rfl⟩)
                  | (at_builtin; refine wpList_append_own _ rfl _ _ 27 rfl (w1.heap.size + 1) 9 i9 (.string ByteArray.empty) 1 16 Try.underlying27 hi9 hj0 hj1 hj2 rfl (by decide) _ _ _ rfl (hown.alloc _) ⟨w2.heap.size, 0, none⟩ 1 1 [.string (bstr Y)] rfl rfl (cell_one_new _ _ _) (by simp [Value.oneCell']) (by unfold maxLen; omega) (by omega) (by simp; omega) ?_; intro v3 w3 hown3 hgrow3 _; have HF3 := Lib.hid (HF2.out.wrap (by omega) (by omega) true (y := Y) (Nat.pos_of_ne_zero HC.out) (by omega) hgrow3 hown3); clear hown hown3 hgrow3))
              go_roundw
              case rel =>
                have q := HF3.out
                simp only [if_true] at q
                rw [HS1.out, HW1.out, HS2.out] at q
                exact ⟨k + 1, sg + 1, S2, _, _, by omega, by omega, by go_num, rfl, rfl, by go_num, Lib.hid q⟩
              case measure => simp [intOf]; omega
      · have d2 : decide ((k : Int) < (n2 : Int)) = false := decide_eq_false (by omega)
        obtain ⟨S1, hS1⟩ : ∃ S1, S = S1 := ⟨_, rfl⟩
        have HS1 := Lib.hid hS1
        subst hS1
        have hS1l : (bstr S).size ≤ 800004 := by rw [bstr_size]; omega
        by_cases hc : Y.length = 0
        · have hW : wrapE (1 + P) (1 + Q) Y.length = 142 := by unfold wrapE; rw [HY.out, if_neg (by simp), if_pos hc]
          have e1 : (bstr Y).toList.isEmpty = true := str_nil hc
          have dM : decide ((1 + Q) < (Y.length : Int)) = false := decide_eq_false (by omega)
          have dL : ((Y.length : Int) ≤ 1 + Q) := by omega
          have QW : Hid (∀ w, Calls Try.prog 9 #[.int .i64 (1 + P), .int .i64 (1 + Q), .string (bstr Y)] w fun v w' => v = .returned (.tuple #[.string ByteArray.empty, .int .i64 142]) ∧ Below w.heap.size w w') := Lib.hid fun w => by
            have q := wrap_any (1 + P) (1 + Q) (bstr Y) (by rw [bstr_size]; exact hYl) w
            unfold wrapW wrapB at q
            rw [bstr_size, hW, if_neg (by decide)] at q
            exact q
          clear hW
          clear hc
          go_wp2_with (first
              | (go_at_call 9; refine (QW.out _).mono ?_; rintro e w2 ⟨rfl, hb⟩; have hx1 := (hb.cell (p := ⟨b, off + k, none⟩) (Nat.lt_of_lt_of_le hbl HF.out.hB)).trans hcx; have HF2 := Lib.hid (HF.out.below hb); have hlow := HF2.out.low; have hown := HF2.out.own; have hmany := HF2.out.many; clear hb))
          go_roundw
          case rel =>
            have q := HF2.out.skip (by omega) false
            simp only [Bool.false_eq_true, if_false] at q
            skip
            exact ⟨k + 1, sg  , S, _, _, by omega, by omega, by go_num, rfl, rfl, rfl, Lib.hid q⟩
          case measure => simp [intOf]; omega
        · by_cases hM : (1 + Q) < (Y.length : Int)
          · have hW : wrapE (1 + P) (1 + Q) Y.length = 141 := by unfold wrapE; rw [HY.out, if_neg (by simp), if_neg hc, if_pos hM]
            have e1 : (bstr Y).toList.isEmpty = false := str_ne hc
            have dM : decide ((1 + Q) < (Y.length : Int)) = true := decide_eq_true hM
            have dL : decide ((Y.length : Int) ≤ 1 + Q) = false := decide_eq_false (by omega)
            have QW : Hid (∀ w, Calls Try.prog 9 #[.int .i64 (1 + P), .int .i64 (1 + Q), .string (bstr Y)] w fun v w' => v = .returned (.tuple #[.string ByteArray.empty, .int .i64 141]) ∧ Below w.heap.size w w') := Lib.hid fun w => by
              have q := wrap_any (1 + P) (1 + Q) (bstr Y) (by rw [bstr_size]; exact hYl) w
              unfold wrapW wrapB at q
              rw [bstr_size, hW, if_neg (by decide)] at q
              exact q
            clear hW
            clear hc
            go_wp2_with (first
                | (go_at_call 9; refine (QW.out _).mono ?_; rintro e w2 ⟨rfl, hb⟩; have hx1 := (hb.cell (p := ⟨b, off + k, none⟩) (Nat.lt_of_lt_of_le hbl HF.out.hB)).trans hcx; have HF2 := Lib.hid (HF.out.below hb); have hlow := HF2.out.low; have hown := HF2.out.own; have hmany := HF2.out.many; clear hb))
            go_roundw
            case rel =>
              have q := HF2.out.skip (by omega) false
              simp only [Bool.false_eq_true, if_false] at q
              skip
              exact ⟨k + 1, sg  , S, _, _, by omega, by omega, by go_num, rfl, rfl, rfl, Lib.hid q⟩
            case measure => simp [intOf]; omega
          · have hW : wrapE (1 + P) (1 + Q) Y.length = 0 := by unfold wrapE; rw [HY.out, if_neg (by simp), if_neg hc, if_neg hM]
            have e1 : (bstr Y).toList.isEmpty = false := str_ne hc
            have dM : decide ((1 + Q) < (Y.length : Int)) = false := decide_eq_false hM
            have dL : decide ((Y.length : Int) ≤ 1 + Q) = true := decide_eq_true (by omega)
            obtain ⟨W1, hW1⟩ : ∃ W1, hdrV (1 + P) Y.length ++ Y = W1 := ⟨_, rfl⟩
            have hWl : (bstr W1).size ≤ 10003 := by rw [bstr_size, ← hW1, List.length_append, hdr_len]; have := hsz_pos (1 + P); omega
            obtain ⟨S2, hS2⟩ : ∃ S2, S ++ W1 = S2 := ⟨_, rfl⟩
            have hcat2 : bstr S ++ bstr W1 = bstr S2 := by rw [bstr_append, hS2]
            have QW : Hid (∀ w, Calls Try.prog 9 #[.int .i64 (1 + P), .int .i64 (1 + Q), .string (bstr Y)] w fun v w' => v = .returned (.tuple #[.string (bstr W1), .int .i64 0]) ∧ Below w.heap.size w w') := Lib.hid fun w => by
              have q := wrap_any (1 + P) (1 + Q) (bstr Y) (by rw [bstr_size]; exact hYl) w
              unfold wrapW wrapB at q
              rw [bstr_size, hW, if_pos rfl, bstr_append, hW1] at q
              exact q
            have HC := Lib.hid hc
            have HW1 := Lib.hid hW1
            have HS2 := Lib.hid hS2
            clear hW hW1 hS2
            clear hc
            go_wp2_with (first
                | (go_at_call 9; refine (QW.out _).mono ?_; rintro e w2 ⟨rfl, hb⟩; have hx1 := (hb.cell (p := ⟨b, off + k, none⟩) (Nat.lt_of_lt_of_le hbl HF.out.hB)).trans hcx; have HF2 := Lib.hid (HF.out.below hb); have hlow := HF2.out.low; have hown := HF2.out.own; have hmany := HF2.out.many; clear hb)
                | (at_builtin; refine wpList_append_own _ rfl _ _ 27 rfl (w1.heap.size + 1) 9 i9 (.string ByteArray.empty) 1 16 Try.underlying27 hi9 hj0 hj1 hj2 rfl (by decide) _ _ _ rfl (hown.alloc _) ⟨w2.heap.size, 0, none⟩ 1 1 [.string (bstr Y)] rfl rfl (cell_one_new _ _ _) (by simp [Value.oneCell']) (by unfold maxLen; omega) (by omega) (by simp; omega) ?_; intro v3 w3 hown3 hgrow3 _; have HF3 := Lib.hid (HF2.out.wrap (by omega) (by omega) false (y := Y) (Nat.pos_of_ne_zero HC.out) (by omega) hgrow3 hown3); clear hown hown3 hgrow3))
            go_roundw
            case rel =>
              have q := HF3.out
              simp only [Bool.false_eq_true, if_false] at q
              rw [HW1.out, HS2.out] at q
              exact ⟨k + 1, sg, S2, _, _, by omega, by omega, by go_num, rfl, rfl, rfl, Lib.hid q⟩
            case measure => simp [intOf]; omega
    · have hSl : S.length ≤ 800000 := Nat.le_trans HF.out.len (bnd_le (by omega))
      have hsg := HF.out.signs
      have hmn := HF.out.many
      have hgl := HF.out.hg
      have r1 : feedE (1 + P) (1 + Q) (fresh 0) S = 0 := by
        rw [feedE_bad, (feed_fresh _ _ _ _).1]; simp only; rw [HF.out.cutE]
      have r2 : feedM (1 + P) (1 + Q) (fresh 0) S = ms := by
        rw [(feed_fresh _ _ _ _).2, HF.out.cutE]
      have r3 : feedS (1 + P) (1 + Q) (fresh 0) S = ⟨[], 0, sg⟩ := by
        rw [(feed_fresh _ _ _ _).1, HF.out.cutE, Nat.zero_add]
      have R1 := Lib.hid r1
      have R2 := Lib.hid r2
      have R3 := Lib.hid r3
      clear r1 r2 r3
      obtain ⟨Ao, co, rfl⟩ := own_form HF.out.own
      have hex : Hid (k < n1 → ¬ k < 40) := by show _ → _; omega
      clear hround
      by_cases hlt : k < n1
      · have h40 := hex.out hlt
        have d0 : decide ((k : Int) < (n1 : Int)) = true := decide_eq_true (by omega)
        have d40 : decide ((k : Int) < 40) = false := decide_eq_false (by omega)
        clear h40 hex
        go_wp2_with (first
          | (go_at_call 14; refine (fed_any HF.out.strm (by omega) (by omega) (by omega) (by omega) S A3 n3 c3 zs HN3.out (HI3.out.below HF.out.bel) (by simp [fresh]; omega) (by simp [fresh]) (by omega)).mono ?_; rintro e w5 ⟨l, va, rfl, hf⟩; rw [R1.out] at hf ⊢; rw [R2.out, R3.out] at hf; have B5 := Lib.hid (HF.out.bel.trans (hf.facts HF.out.hB (by simp [Value.ownBlock]))); have OW5 := Lib.hid (hf.fr.row HF.out.own (own_ge HF.out.own HF.out.hg) (by cases (Value.slice Ao ms.length co).ownBlock <;> simp [Value.ownBlock])); have OL5 := Lib.hid hf.own; have ST5 := Lib.hid hf.strm; obtain ⟨Al, cl, rfl⟩ := own_form hf.own; clear hf)
          | (go_at_call 15; refine (same_true Al Ao ms.length cl co ms rfl (by omega) _ (SL.of_own OL5.out) (SL.of_own OW5.out)).mono ?_; rintro e w' ⟨rfl, q5, rfl⟩; have ST6 := Lib.hid (ST5.out.below (below_drewN' w5 q5)))
          | (go_at_call 16; refine (waits_any ST6.out).mono ?_; rintro e w' ⟨rfl, rfl⟩)
          | (go_at_call 17; refine (idle_any ST6.out).mono ?_; rintro e w' ⟨rfl, rfl⟩))
        go_ret
        exact ⟨rfl, below_drewN B5.out _⟩
      · have d0 : decide ((k : Int) < (n1 : Int)) = false := decide_eq_false (by omega)
        clear hex
        go_wp2_with (first
          | (go_at_call 14; refine (fed_any HF.out.strm (by omega) (by omega) (by omega) (by omega) S A3 n3 c3 zs HN3.out (HI3.out.below HF.out.bel) (by simp [fresh]; omega) (by simp [fresh]) (by omega)).mono ?_; rintro e w5 ⟨l, va, rfl, hf⟩; rw [R1.out] at hf ⊢; rw [R2.out, R3.out] at hf; have B5 := Lib.hid (HF.out.bel.trans (hf.facts HF.out.hB (by simp [Value.ownBlock]))); have OW5 := Lib.hid (hf.fr.row HF.out.own (own_ge HF.out.own HF.out.hg) (by cases (Value.slice Ao ms.length co).ownBlock <;> simp [Value.ownBlock])); have OL5 := Lib.hid hf.own; have ST5 := Lib.hid hf.strm; obtain ⟨Al, cl, rfl⟩ := own_form hf.own; clear hf)
          | (go_at_call 15; refine (same_true Al Ao ms.length cl co ms rfl (by omega) _ (SL.of_own OL5.out) (SL.of_own OW5.out)).mono ?_; rintro e w' ⟨rfl, q5, rfl⟩; have ST6 := Lib.hid (ST5.out.below (below_drewN' w5 q5)))
          | (go_at_call 16; refine (waits_any ST6.out).mono ?_; rintro e w' ⟨rfl, rfl⟩)
          | (go_at_call 17; refine (idle_any ST6.out).mono ?_; rintro e w' ⟨rfl, rfl⟩))
        go_ret
        exact ⟨rfl, below_drewN B5.out _⟩
end Go.Proofs.Ytpipcklnicmpfaa
