/-
  FramePieces: the walk.
-/
import Derived.Test.YtpipcklnicmpfaaPair
namespace Go.Proofs.Ytpipcklnicmpfaa
open Go.RowKit
set_option linter.unusedVariables false
set_option linter.unusedSimpArgs false
theorem feed_bad_waits {h m : Int} {i : Nat} {t : Bys} (e : feedE h m (fresh i) t ≠ 0) : (feedS h m (fresh i) t).waits = [] := by
  unfold feedE feedS fresh at *
  simp only [if_true, List.nil_append] at *
  exact cut_wrong e
theorem feed_again {h m : Int} {s : St} {t : Bys} (e : s.bad ≠ 0) : feedE h m s t = s.bad ∧ feedM h m s t = [] ∧ feedS h m s t = s := by
  unfold feedE feedM feedS
  rw [if_neg e, if_neg e, if_neg e]; exact ⟨rfl, rfl, rfl⟩
theorem feed_idle (h m : Int) (s : St) (t : Bys) : s.idle ≤ (feedS h m s t).idle := by
  unfold feedS
  split
  · show _ ≤ s.idle + _; omega
  · exact Nat.le_refl _
theorem fresh_waits (i : Nat) : (fresh i).waits.length = 0 := rfl
theorem fresh_idle (i : Nat) : (fresh i).idle = i := rfl
theorem fresh_any (h m : Int) (i : Nat) (t : Bys) : feedE h m (fresh i) t = feedE h m (fresh 0) t ∧ feedM h m (fresh i) t = feedM h m (fresh 0) t := ⟨rfl, rfl⟩

set_option maxRecDepth 100000 in
set_option maxHeartbeats 4000000 in
theorem pieces_ok (hd : Int) (h1 : -9223372036854775808 ≤ hd) (h2 : hd ≤ 9223372036854775807) (md : Int) (m1 : -9223372036854775808 ≤ md) (m2 : md ≤ 9223372036854775807) (t : Bys) (ht : t.length ≤ 2000000)
    (A1 : Option Addr) (n1 c1 : Nat) (ys1 : List Int) (hn1 : ys1.length = n1) (A2 : Option Addr) (n2 c2 : Nat) (ys2 : List Int) (hn2 : ys2.length = n2) (hb1 : n1 ≤ 2000000) (hb2 : n2 ≤ 2000000)
    (P Q E : Int) (hP : pickV hd 4 = P) (hQ : pickV md 9999 = Q) (Lm : List Bys) (S S2 : St) (E2 : Int) (L2 : List Bys)
    (hE : feedE (1 + P) (1 + Q) (fresh 0) t = E) (hM : feedM (1 + P) (1 + Q) (fresh 0) t = Lm) (hS : feedS (1 + P) (1 + Q) (fresh 0) t = S) (hE2 : feedE (1 + P) (1 + Q) S t = E2) (hM2 : feedM (1 + P) (1 + Q) S t = L2) (hS2 : feedS (1 + P) (1 + Q) S t = S2)
    (hcase : E = 0) (w : World) (hI1 : Ints w w.heap.size A1 ys1) (hI2 : Ints w w.heap.size A2 ys2) :
    Calls Try.prog 7 #[.int .i64 hd, .int .i64 md, .string (bstr t), .slice A1 n1 c1, .slice A2 n2 c2] w fun e w' => e = .returned (.bool true) ∧ Below w.heap.size w w' := by
  obtain ⟨p1, p2⟩ := pick_rng hd 4 (by omega)
  obtain ⟨q1, q2⟩ := pick_rng md 9999 (by omega)
  rw [hP] at p1 p2
  rw [hQ] at q1 q2
  have hmay : mayB (1 + P) (1 + Q) = true := by unfold mayB; simp; omega
  have QN : Hid (∀ w, Calls Try.prog 12 #[.int .i64 (1 + P), .int .i64 (1 + Q)] w fun v w' => v = .returned (.tuple #[.pointer (some ⟨w.heap.size, 0, none⟩), .int .i64 0]) ∧ w' = w.alloc (.cells #[.int .i64 (1 + P), .int .i64 (1 + Q), .slice none 0 0, .int .i64 0, .int .i64 0] 70)) := Lib.hid fun w => new_right _ _ w hmay
  obtain ⟨s1, s2⟩ := feed_sizes (1 + P) (1 + Q) (fresh 0) t
  obtain ⟨s3, s4⟩ := feed_sizes (1 + P) (1 + Q) S t
  have s5 := feed_idle (1 + P) (1 + Q) S t
  rw [hM, hS] at s1 s2
  rw [hM2, hS2] at s3 s4
  rw [hS2] at s5
  simp only [fresh, List.length_nil] at s1 s2
  have s6 : (0 : Int) ≤ (S2.idle : Int) - (S.idle : Int) := by omega
  have s7 : decide ((S.idle : Int) ≤ (S2.idle : Int)) = true := decide_eq_true (by omega)
  have HP := Lib.hid hP
  have HQ := Lib.hid hQ
  have HE := Lib.hid hE
  have HM := Lib.hid hM
  have HS := Lib.hid hS
  have HI1 := Lib.hid hI1
  have HI2 := Lib.hid hI2
  have HN1 := Lib.hid hn1
  have HN2 := Lib.hid hn2
  have KCV := Lib.hid fun (W : World) (s : ByteArray) => Lib.run_convert_string_bytes (P := Try.prog) W 9 60 5 s Try.underlying9 Try.underlying60 Try.underlying5
  subst hcase
  have HE2 := Lib.hid hE2
  have HM2 := Lib.hid hM2
  have HS2 := Lib.hid hS2
  clear hP hQ hE hM hS hE2 hM2 hS2 hI1 hI2 hn1 hn2 hmay
  have TK0 := Lib.hid True.intro
  go_enter Try.func7, Try.ntmps7
  go_wp2_with (first
    | (have tk := TK0; go_at_call 8; refine (examples_ok _).mono ?_; rintro e w1 ⟨rfl, hb1⟩; have HB1 := Lib.hid hb1; have hz1 := hb1.size; clear hb1; clear tk TK0; have TK1 := Lib.hid True.intro)
    | (have tk := TK1; go_at_call 11; refine (pick_any _ _ _ (by omega) (by omega) (by omega) (by omega)).mono ?_; rintro e w' ⟨rfl, rfl⟩; rw [HP.out]; clear tk TK1; have TK2 := Lib.hid True.intro)
    | (have tk := TK2; go_at_call 11; refine (pick_any _ _ _ (by omega) (by omega) (by omega) (by omega)).mono ?_; rintro e w' ⟨rfl, rfl⟩; rw [HQ.out]; clear tk TK2; have TK3 := Lib.hid True.intro)
    | (have tk := TK3; go_at_call 12; refine (QN.out _).mono ?_; rintro e w' ⟨rfl, rfl⟩; clear tk TK3; have TK4 := Lib.hid True.intro)
    | (have tk := TK4; go_at_call 12; refine (QN.out _).mono ?_; rintro e w' ⟨rfl, rfl⟩; have T3 := Lib.hid (Two.newTwo w1 w.heap.size (1 + P) (1 + Q) hz1); have B3 := Lib.hid ((HB1.out.alloc hz1 (.cells #[.int .i64 (1 + P), .int .i64 (1 + Q), .slice none 0 0, .int .i64 0, .int .i64 0] 70)).alloc (by simp; omega) (.cells #[.int .i64 (1 + P), .int .i64 (1 + Q), .slice none 0 0, .int .i64 0, .int .i64 0] 70)); have hz3 := B3.out.size; simp only [World.size_alloc] at hz3; clear tk TK4; have TK5 := Lib.hid True.intro)
    | (have tk := TK5; go_at_call 14; refine (fed_any T3.out.a (by omega) (by omega) (by omega) (by omega) t A1 n1 c1 ys1 HN1.out (HI1.out.below B3.out) (by simp [fresh]; omega) (by simp [fresh]) (by omega)).mono ?_; rintro e w4 ⟨l, va, rfl, hf⟩; rw [HE.out] at hf ⊢; rw [HS.out, HM.out] at hf; have T4 := Lib.hid (T3.out.fed hf); have B4 := Lib.hid (B3.out.trans (hf.facts B3.out.size (by simp [Value.ownBlock]))); have OL4 := Lib.hid hf.own; have hz4 := hf.fr.size; simp only [World.size_alloc] at hz4; obtain ⟨Al, cl, rfl⟩ := own_form hf.own; clear hf T3 B3; clear tk TK5; have TK6 := Lib.hid True.intro)
    | (have tk := TK6; go_at_call 14; refine (fed_any T4.out.b (by omega) (by omega) (by omega) (by omega) t A2 n2 c2 ys2 HN2.out (HI2.out.below B4.out) (by simp [fresh]; omega) (by simp [fresh]) (by omega)).mono ?_; rintro e w5 ⟨l2, vb, rfl, hf⟩; rw [HE.out] at hf ⊢; rw [HS.out, HM.out] at hf; have T5 := Lib.hid (T4.out.swap.fed hf).swap; have B5 := Lib.hid (B4.out.trans (hf.facts B4.out.size (by simp [Value.ownBlock]))); have OL5 := Lib.hid (T4.out.swap.rows hf OL4.out (by simp only [World.size_alloc]; omega)); have OM5 := Lib.hid hf.own; have hz5 := hf.fr.size; obtain ⟨Am, cm, rfl⟩ := own_form hf.own; clear hf T4 B4; clear tk TK6; have TK7 := Lib.hid True.intro)
    | (have tk := TK7; go_at_call 15; refine (same_true Al Am Lm.length cl cm Lm rfl (by omega) _ (SL.of_own OL5.out) (SL.of_own OM5.out)).mono ?_; rintro e w' ⟨rfl, q5, rfl⟩; have T6 := Lib.hid (T5.out.below (below_drewN' w5 q5)); have B6 := Lib.hid (below_drewN B5.out q5); have OL6 := Lib.hid (own_drewN OL5.out q5); clear tk TK7; have TK8 := Lib.hid True.intro)
    | (have tk := TK8; go_at_call 16; refine (waits_any T6.out.a).mono ?_; rintro e w' ⟨rfl, rfl⟩; clear tk TK8; have TK9 := Lib.hid True.intro)
    | (have tk := TK9; go_at_call 16; refine (waits_any T6.out.b).mono ?_; rintro e w' ⟨rfl, rfl⟩; clear tk TK9; have TK10 := Lib.hid True.intro)
    | (have tk := TK10; go_at_call 17; refine (idle_any T6.out.a).mono ?_; rintro e w' ⟨rfl, rfl⟩; clear tk TK10; have TK11 := Lib.hid True.intro)
    | (have tk := TK11; go_at_call 17; refine (idle_any T6.out.b).mono ?_; rintro e w' ⟨rfl, rfl⟩; have T7 := Lib.hid (T6.out.below (bytes_below _ 5 (bstr t))); have B7 := Lib.hid (B6.out.trans ((bytes_below _ 5 (bstr t)).mono B6.out.size)); have OL7 := Lib.hid (own_below OL6.out (bytes_below _ 5 (bstr t))); have hz7 : w5.heap.size ≤ (Lib.bytesWorld (w5.drewN q5) 5 (bstr t)).heap.size := (bytes_below (w5.drewN q5) 5 (bstr t)).size; have KC := KCV.out (w5.drewN q5) (bstr t); clear tk TK11; have TK12 := Lib.hid True.intro)
    | (have tk := TK12; go_at_call 26; refine (feed_any T7.out.a (by omega) (by omega) (by omega) (by omega) _ (bstr t).size _ t rfl (bytes_reads _ (bstr t)) (by rw [bstr_size]; omega) (by omega)).mono ?_; rintro e w8 ⟨o8, va8, rfl, hf⟩; rw [HE2.out] at hf ⊢; rw [HM2.out, HS2.out] at hf; have T8 := Lib.hid (T7.out.fed hf); have B8 := Lib.hid (B7.out.trans (hf.facts B7.out.size (fun j e => (T7.out.a.lt j e).1))); have OL8 := Lib.hid (T7.out.rows hf OL7.out (by simp only [World.size_alloc]; omega)); have hz8 := hf.fr.size; obtain ⟨A8, c8, rfl⟩ := own_form hf.own; clear hf T7 B7 KC; clear tk TK12; have TK13 := Lib.hid True.intro)
    | (have tk := TK13; go_at_call 29; refine (reset_any T8.out.a).mono ?_; rintro e w9 ⟨⟨_, rfl⟩, hs9, hf9⟩; have T9 := Lib.hid (T8.out.reset hf9 hs9); have B9 := Lib.hid (B8.out.trans (hf9.below B8.out.size T8.out.a.2.2.2 (by simp))); have OL9 := Lib.hid (hf9.row OL8.out (own_ge OL8.out (by simp only [World.size_alloc]; omega)) (by (cases (Value.slice Al Lm.length cl).ownBlock) <;> simp)); have hz9 := hf9.size; clear hs9 hf9; clear tk TK13; have TK14 := Lib.hid True.intro)
    | (have tk := TK14; go_at_call 16; refine (waits_any T9.out.a).mono ?_; rintro e w' ⟨rfl, rfl⟩; rw [fresh_waits]; clear tk TK14; have TK15 := Lib.hid True.intro)
    | (have tk := TK15; go_at_call 17; refine (idle_any T9.out.a).mono ?_; rintro e w' ⟨rfl, rfl⟩; rw [fresh_idle]; clear tk TK15; have TK16 := Lib.hid True.intro)
    | (have tk := TK16; go_at_call 17; refine (idle_any T9.out.b).mono ?_; rintro e w' ⟨rfl, rfl⟩; clear tk TK16; have TK17 := Lib.hid True.intro)
    | (have tk := TK17; go_at_call 14; refine (fed_any T9.out.a (by omega) (by omega) (by omega) (by omega) t A2 n2 c2 ys2 HN2.out (HI2.out.below B9.out) (by simp [fresh]; omega) (by simp [fresh]; omega) (by omega)).mono ?_; rintro e wa ⟨l3, va3, rfl, hf⟩; rw [(fresh_any _ _ _ _).1, HE.out] at hf ⊢; rw [(fresh_any _ _ _ _).2, HM.out] at hf; have Ba := Lib.hid (B9.out.trans (hf.facts B9.out.size (by simp [Value.ownBlock]))); have OLa := Lib.hid (T9.out.rows hf OL9.out (by simp only [World.size_alloc]; omega)); have OMa := Lib.hid hf.own; obtain ⟨A3, c3, rfl⟩ := own_form hf.own; clear hf; clear tk TK17; have TK18 := Lib.hid True.intro)
    | (have tk := TK18; go_at_call 15; refine (same_true Al A3 Lm.length cl c3 Lm rfl (by omega) _ (SL.of_own OLa.out) (SL.of_own OMa.out)).mono ?_; rintro e w' ⟨rfl, qa, rfl⟩; clear tk TK18))
  go_ret
  refine ⟨rfl, below_drewN Ba.out _⟩

set_option maxRecDepth 100000 in
set_option maxHeartbeats 4000000 in
theorem pieces_bad (hd : Int) (h1 : -9223372036854775808 ≤ hd) (h2 : hd ≤ 9223372036854775807) (md : Int) (m1 : -9223372036854775808 ≤ md) (m2 : md ≤ 9223372036854775807) (t : Bys) (ht : t.length ≤ 2000000)
    (A1 : Option Addr) (n1 c1 : Nat) (ys1 : List Int) (hn1 : ys1.length = n1) (A2 : Option Addr) (n2 c2 : Nat) (ys2 : List Int) (hn2 : ys2.length = n2) (hb1 : n1 ≤ 2000000) (hb2 : n2 ≤ 2000000)
    (P Q E : Int) (hP : pickV hd 4 = P) (hQ : pickV md 9999 = Q) (Lm : List Bys) (S S2 : St) (E2 : Int) (L2 : List Bys)
    (hE : feedE (1 + P) (1 + Q) (fresh 0) t = E) (hM : feedM (1 + P) (1 + Q) (fresh 0) t = Lm) (hS : feedS (1 + P) (1 + Q) (fresh 0) t = S) (hE2 : feedE (1 + P) (1 + Q) S t = E2) (hM2 : feedM (1 + P) (1 + Q) S t = L2) (hS2 : feedS (1 + P) (1 + Q) S t = S2)
    (hcase : E ≠ 0) (w : World) (hI1 : Ints w w.heap.size A1 ys1) (hI2 : Ints w w.heap.size A2 ys2) :
    Calls Try.prog 7 #[.int .i64 hd, .int .i64 md, .string (bstr t), .slice A1 n1 c1, .slice A2 n2 c2] w fun e w' => e = .returned (.bool true) ∧ Below w.heap.size w w' := by
  obtain ⟨p1, p2⟩ := pick_rng hd 4 (by omega)
  obtain ⟨q1, q2⟩ := pick_rng md 9999 (by omega)
  rw [hP] at p1 p2
  rw [hQ] at q1 q2
  have hmay : mayB (1 + P) (1 + Q) = true := by unfold mayB; simp; omega
  have QN : Hid (∀ w, Calls Try.prog 12 #[.int .i64 (1 + P), .int .i64 (1 + Q)] w fun v w' => v = .returned (.tuple #[.pointer (some ⟨w.heap.size, 0, none⟩), .int .i64 0]) ∧ w' = w.alloc (.cells #[.int .i64 (1 + P), .int .i64 (1 + Q), .slice none 0 0, .int .i64 0, .int .i64 0] 70)) := Lib.hid fun w => new_right _ _ w hmay
  obtain ⟨s1, s2⟩ := feed_sizes (1 + P) (1 + Q) (fresh 0) t
  obtain ⟨s3, s4⟩ := feed_sizes (1 + P) (1 + Q) S t
  have s5 := feed_idle (1 + P) (1 + Q) S t
  rw [hM, hS] at s1 s2
  rw [hM2, hS2] at s3 s4
  rw [hS2] at s5
  simp only [fresh, List.length_nil] at s1 s2
  have s6 : (0 : Int) ≤ (S2.idle : Int) - (S.idle : Int) := by omega
  have s7 : decide ((S.idle : Int) ≤ (S2.idle : Int)) = true := decide_eq_true (by omega)
  have HP := Lib.hid hP
  have HQ := Lib.hid hQ
  have HE := Lib.hid hE
  have HM := Lib.hid hM
  have HS := Lib.hid hS
  have HI1 := Lib.hid hI1
  have HI2 := Lib.hid hI2
  have HN1 := Lib.hid hn1
  have HN2 := Lib.hid hn2
  have KCV := Lib.hid fun (W : World) (s : ByteArray) => Lib.run_convert_string_bytes (P := Try.prog) W 9 60 5 s Try.underlying9 Try.underlying60 Try.underlying5
  have g1 : (E == 0) = false := by rw [beq_eq_false_iff_ne]; exact hcase
  have hSb : S.bad = E := by rw [← hS, ← hE, feedE_bad]
  obtain ⟨k1, k2, k3⟩ := feed_again (h := 1 + P) (m := 1 + Q) (s := S) (t := t) (by rw [hSb]; exact hcase)
  rw [hSb] at k1
  have HW : Hid (S.waits.length = 0) := by
    show _ = _
    rw [← hS, feed_bad_waits (by rw [hE]; exact hcase)]; rfl
  obtain rfl : E = E2 := k1.symm.trans hE2
  obtain rfl : [] = L2 := k2.symm.trans hM2
  obtain rfl : S = S2 := k3.symm.trans hS2
  clear k1 k2 k3 hSb
  have HE2 := Lib.hid hE2
  have HM2 := Lib.hid hM2
  have HS2 := Lib.hid hS2
  clear hP hQ hE hM hS hE2 hM2 hS2 hI1 hI2 hn1 hn2 hmay
  have TK0 := Lib.hid True.intro
  go_enter Try.func7, Try.ntmps7
  go_wp2_with (first
    | (have tk := TK0; go_at_call 8; refine (examples_ok _).mono ?_; rintro e w1 ⟨rfl, hb1⟩; have HB1 := Lib.hid hb1; have hz1 := hb1.size; clear hb1; clear tk TK0; have TK1 := Lib.hid True.intro)
    | (have tk := TK1; go_at_call 11; refine (pick_any _ _ _ (by omega) (by omega) (by omega) (by omega)).mono ?_; rintro e w' ⟨rfl, rfl⟩; rw [HP.out]; clear tk TK1; have TK2 := Lib.hid True.intro)
    | (have tk := TK2; go_at_call 11; refine (pick_any _ _ _ (by omega) (by omega) (by omega) (by omega)).mono ?_; rintro e w' ⟨rfl, rfl⟩; rw [HQ.out]; clear tk TK2; have TK3 := Lib.hid True.intro)
    | (have tk := TK3; go_at_call 12; refine (QN.out _).mono ?_; rintro e w' ⟨rfl, rfl⟩; clear tk TK3; have TK4 := Lib.hid True.intro)
    | (have tk := TK4; go_at_call 12; refine (QN.out _).mono ?_; rintro e w' ⟨rfl, rfl⟩; have T3 := Lib.hid (Two.newTwo w1 w.heap.size (1 + P) (1 + Q) hz1); have B3 := Lib.hid ((HB1.out.alloc hz1 (.cells #[.int .i64 (1 + P), .int .i64 (1 + Q), .slice none 0 0, .int .i64 0, .int .i64 0] 70)).alloc (by simp; omega) (.cells #[.int .i64 (1 + P), .int .i64 (1 + Q), .slice none 0 0, .int .i64 0, .int .i64 0] 70)); have hz3 := B3.out.size; simp only [World.size_alloc] at hz3; clear tk TK4; have TK5 := Lib.hid True.intro)
    | (have tk := TK5; go_at_call 14; refine (fed_any T3.out.a (by omega) (by omega) (by omega) (by omega) t A1 n1 c1 ys1 HN1.out (HI1.out.below B3.out) (by simp [fresh]; omega) (by simp [fresh]) (by omega)).mono ?_; rintro e w4 ⟨l, va, rfl, hf⟩; rw [HE.out] at hf ⊢; rw [HS.out, HM.out] at hf; have T4 := Lib.hid (T3.out.fed hf); have B4 := Lib.hid (B3.out.trans (hf.facts B3.out.size (by simp [Value.ownBlock]))); have OL4 := Lib.hid hf.own; have hz4 := hf.fr.size; simp only [World.size_alloc] at hz4; obtain ⟨Al, cl, rfl⟩ := own_form hf.own; clear hf T3 B3; clear tk TK5; have TK6 := Lib.hid True.intro)
    | (have tk := TK6; go_at_call 14; refine (fed_any T4.out.b (by omega) (by omega) (by omega) (by omega) t A2 n2 c2 ys2 HN2.out (HI2.out.below B4.out) (by simp [fresh]; omega) (by simp [fresh]) (by omega)).mono ?_; rintro e w5 ⟨l2, vb, rfl, hf⟩; rw [HE.out] at hf ⊢; rw [HS.out, HM.out] at hf; have T5 := Lib.hid (T4.out.swap.fed hf).swap; have B5 := Lib.hid (B4.out.trans (hf.facts B4.out.size (by simp [Value.ownBlock]))); have OL5 := Lib.hid (T4.out.swap.rows hf OL4.out (by simp only [World.size_alloc]; omega)); have OM5 := Lib.hid hf.own; have hz5 := hf.fr.size; obtain ⟨Am, cm, rfl⟩ := own_form hf.own; clear hf T4 B4; clear tk TK6; have TK7 := Lib.hid True.intro)
    | (have tk := TK7; go_at_call 15; refine (same_true Al Am Lm.length cl cm Lm rfl (by omega) _ (SL.of_own OL5.out) (SL.of_own OM5.out)).mono ?_; rintro e w' ⟨rfl, q5, rfl⟩; have T6 := Lib.hid (T5.out.below (below_drewN' w5 q5)); have B6 := Lib.hid (below_drewN B5.out q5); have OL6 := Lib.hid (own_drewN OL5.out q5); clear tk TK7; have TK8 := Lib.hid True.intro)
    | (have tk := TK8; go_at_call 16; refine (waits_any T6.out.a).mono ?_; rintro e w' ⟨rfl, rfl⟩; clear tk TK8; have TK9 := Lib.hid True.intro)
    | (have tk := TK9; go_at_call 16; refine (waits_any T6.out.b).mono ?_; rintro e w' ⟨rfl, rfl⟩; clear tk TK9; have TK10 := Lib.hid True.intro)
    | (have tk := TK10; go_at_call 17; refine (idle_any T6.out.a).mono ?_; rintro e w' ⟨rfl, rfl⟩; clear tk TK10; have TK11 := Lib.hid True.intro)
    | (have tk := TK11; go_at_call 17; refine (idle_any T6.out.b).mono ?_; rintro e w' ⟨rfl, rfl⟩; have T7 := Lib.hid (T6.out.below (bytes_below _ 5 (bstr t))); have B7 := Lib.hid (B6.out.trans ((bytes_below _ 5 (bstr t)).mono B6.out.size)); have OL7 := Lib.hid (own_below OL6.out (bytes_below _ 5 (bstr t))); have hz7 : w5.heap.size ≤ (Lib.bytesWorld (w5.drewN q5) 5 (bstr t)).heap.size := (bytes_below (w5.drewN q5) 5 (bstr t)).size; have KC := KCV.out (w5.drewN q5) (bstr t); clear tk TK11; have TK12 := Lib.hid True.intro)
    | (have tk := TK12; go_at_call 26; refine (feed_any T7.out.a (by omega) (by omega) (by omega) (by omega) _ (bstr t).size _ t rfl (bytes_reads _ (bstr t)) (by rw [bstr_size]; omega) (by omega)).mono ?_; rintro e w8 ⟨o8, va8, rfl, hf⟩; rw [HE2.out] at hf ⊢; rw [HM2.out, HS2.out] at hf; have T8 := Lib.hid (T7.out.fed hf); have B8 := Lib.hid (B7.out.trans (hf.facts B7.out.size (fun j e => (T7.out.a.lt j e).1))); have OL8 := Lib.hid (T7.out.rows hf OL7.out (by simp only [World.size_alloc]; omega)); have hz8 := hf.fr.size; obtain ⟨A8, c8, rfl⟩ := own_form hf.own; clear hf T7 B7 KC; clear tk TK12; have TK13 := Lib.hid True.intro)
    | (have tk := TK13; go_at_call 16; refine (waits_any T8.out.a).mono ?_; rintro e w' ⟨rfl, rfl⟩; rw [HW.out]; clear tk TK13; have TK14 := Lib.hid True.intro)
    | (have tk := TK14; go_at_call 29; refine (reset_any T8.out.a).mono ?_; rintro e w9 ⟨⟨_, rfl⟩, hs9, hf9⟩; have T9 := Lib.hid (T8.out.reset hf9 hs9); have B9 := Lib.hid (B8.out.trans (hf9.below B8.out.size T8.out.a.2.2.2 (by simp))); have OL9 := Lib.hid (hf9.row OL8.out (own_ge OL8.out (by simp only [World.size_alloc]; omega)) (by (cases (Value.slice Al Lm.length cl).ownBlock) <;> simp)); have hz9 := hf9.size; clear hs9 hf9; clear tk TK14; have TK15 := Lib.hid True.intro)
    | (have tk := TK15; go_at_call 16; refine (waits_any T9.out.a).mono ?_; rintro e w' ⟨rfl, rfl⟩; rw [fresh_waits]; clear tk TK15; have TK16 := Lib.hid True.intro)
    | (have tk := TK16; go_at_call 17; refine (idle_any T9.out.a).mono ?_; rintro e w' ⟨rfl, rfl⟩; rw [fresh_idle]; clear tk TK16; have TK17 := Lib.hid True.intro)
    | (have tk := TK17; go_at_call 17; refine (idle_any T9.out.b).mono ?_; rintro e w' ⟨rfl, rfl⟩; clear tk TK17; have TK18 := Lib.hid True.intro)
    | (have tk := TK18; go_at_call 14; refine (fed_any T9.out.a (by omega) (by omega) (by omega) (by omega) t A2 n2 c2 ys2 HN2.out (HI2.out.below B9.out) (by simp [fresh]; omega) (by simp [fresh]; omega) (by omega)).mono ?_; rintro e wa ⟨l3, va3, rfl, hf⟩; rw [(fresh_any _ _ _ _).1, HE.out] at hf ⊢; rw [(fresh_any _ _ _ _).2, HM.out] at hf; have Ba := Lib.hid (B9.out.trans (hf.facts B9.out.size (by simp [Value.ownBlock]))); have OLa := Lib.hid (T9.out.rows hf OL9.out (by simp only [World.size_alloc]; omega)); have OMa := Lib.hid hf.own; obtain ⟨A3, c3, rfl⟩ := own_form hf.own; clear hf; clear tk TK18; have TK19 := Lib.hid True.intro)
    | (have tk := TK19; go_at_call 15; refine (same_true Al A3 Lm.length cl c3 Lm rfl (by omega) _ (SL.of_own OLa.out) (SL.of_own OMa.out)).mono ?_; rintro e w' ⟨rfl, qa, rfl⟩; clear tk TK19))
  go_ret
  refine ⟨rfl, below_drewN Ba.out _⟩

theorem pieces_walk (hd : Int) (h1 : -9223372036854775808 ≤ hd) (h2 : hd ≤ 9223372036854775807) (md : Int) (m1 : -9223372036854775808 ≤ md) (m2 : md ≤ 9223372036854775807) (s : ByteArray) (hs : s.size ≤ 1048576)
    (A1 : Option Addr) (n1 c1 : Nat) (z1 : List Int) {w : World} (hA : IsRow .i64 w A1 n1 c1 z1 ∧ n1 ≤ 1048576) (A2 : Option Addr) (n2 c2 : Nat) (z2 : List Int) (hB : IsRow .i64 w A2 n2 c2 z2 ∧ n2 ≤ 1048576) :
    Calls Try.prog 7 #[.int .i64 hd, .int .i64 md, .string s, .slice A1 n1 c1, .slice A2 n2 c2] w fun e w' => e = .returned (.bool true) ∧ Below w.heap.size w w' := by
  obtain ⟨i1, l1⟩ := hA.1.ints
  obtain ⟨i2, l2⟩ := hB.1.ints
  have hl : s.data.toList.length ≤ 2000000 := by rw [size_list]; omega
  rw [← bstr_of s]
  by_cases hE : feedE (1 + pickV hd 4) (1 + pickV md 9999) (fresh 0) s.data.toList = 0
  · exact pieces_ok hd h1 h2 md m1 m2 _ hl A1 n1 c1 _ l1 A2 n2 c2 _ l2 (by omega) (by omega) _ _ _ rfl rfl _ _ _ _ _ rfl rfl rfl rfl rfl rfl hE w i1 i2
  · exact pieces_bad hd h1 h2 md m1 m2 _ hl A1 n1 c1 _ l1 A2 n2 c2 _ l2 (by omega) (by omega) _ _ _ rfl rfl _ _ _ _ _ rfl rfl rfl rfl rfl rfl hE w i1 i2
end Go.Proofs.Ytpipcklnicmpfaa
