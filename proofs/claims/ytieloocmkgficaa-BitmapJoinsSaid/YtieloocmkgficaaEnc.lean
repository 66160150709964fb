/-
  Encode by its contract.
-/
import Derived.Test.YtieloocmkgficaaWrit
import Derived.Test.YtieloocmkgficaaDecode
import Derived.Deep.RegionHeld3
namespace Go.Proofs.Ytieloocmkgficaa
open Go.RowKit
set_option linter.unusedVariables false
set_option linter.unusedSimpArgs false
theorem right_iff (F S : B64) : rightB F S = true ↔ iv F < 9223372036854775808 ∧ iv S < 9223372036854775808 := by
  have h : ∀ X : B64, X.getLsbD 63 = decide (9223372036854775808 ≤ iv X) := by
    intro X
    have hx := X.isLt
    rw [← BitVec.testBit_toNat, Nat.testBit_eq_decide_div_mod_eq]
    unfold iv
    by_cases h : X.toNat < 9223372036854775808
    · rw [decide_eq_false (by omega), decide_eq_false (by omega)]
    · rw [decide_eq_true (by omega), decide_eq_true (by omega)]
  unfold rightB
  rw [h, h]
  simp only [Bool.not_eq_true', Bool.or_eq_false_iff, decide_eq_false_iff_not]
  omega
theorem keepE {g B : Nat} {c0 c1 : Value} {w0 W w' : World}
    (hS : W.cell? ⟨g, 0, none⟩ = some c0 ∧ W.cell? ⟨g, 1, none⟩ = some c1 ∧ g < W.heap.size ∧ B ≤ W.heap.size ∧ Below B w0 W)
    (hb : Below W.heap.size W w') :
    w'.cell? ⟨g, 0, none⟩ = some c0 ∧ w'.cell? ⟨g, 1, none⟩ = some c1 ∧ g < w'.heap.size ∧ B ≤ w'.heap.size ∧ Below B w0 w' := by
  obtain ⟨h0, h1, h6, h7, h8⟩ := hS
  exact ⟨(hb.cell (p := ⟨g, 0, none⟩) h6).trans h0, (hb.cell (p := ⟨g, 1, none⟩) h6).trans h1, Nat.lt_of_lt_of_le h6 hb.size, Nat.le_trans h7 hb.size, h8.trans (hb.mono h7)⟩
theorem keepE_drew {g B : Nat} {c0 c1 : Value} {w0 W : World}
    (hS : W.cell? ⟨g, 0, none⟩ = some c0 ∧ W.cell? ⟨g, 1, none⟩ = some c1 ∧ g < W.heap.size ∧ B ≤ W.heap.size ∧ Below B w0 W) :
    W.drew.cell? ⟨g, 0, none⟩ = some c0 ∧ W.drew.cell? ⟨g, 1, none⟩ = some c1 ∧ g < W.drew.heap.size ∧ B ≤ W.drew.heap.size ∧ Below B w0 W.drew := by
  obtain ⟨h0, h1, h6, h7, h8⟩ := hS
  exact ⟨h0, h1, h6, h7, h8.drew⟩
theorem enc_ret (a : ByteArray) (b : Int) (r : ByteArray × Int) (h : r = (a, b)) : Ending.returned (.tuple #[.string a, .int .i64 b]) = Ending.returned (.tuple #[.string r.1, .int .i64 r.2]) := by rw [h]
set_option maxHeartbeats 1000000 in
theorem enc_bad (enc : Int) (F S : B64) (w : World) (h : formV enc = 0 ∨ rightB F S = false) :
    Calls Try.prog 25 #[.int .i64 enc, .agg #[.int .u64 (iv F), .int .u64 (iv S)]] w fun e w' => e = .returned (.tuple #[.string ByteArray.empty, .int .i64 1]) ∧ Below w.heap.size w w' := by
  obtain ⟨f, hf⟩ : ∃ f, formV enc = f := ⟨_, rfl⟩
  have HF := Lib.hid hf
  rw [hf] at h
  clear hf
  by_cases f0 : f = 0
  · subst f0
    clear h
    go_enter Try.func25, Try.ntmps25
    go_wp2_with (go_at_call 47; refine (form_any _ _).mono ?_; rintro e w' ⟨rfl, rfl⟩; rw [HF.out])
    go_ret2
    exact ⟨rfl, (Below.refl _ _).alloc (Nat.le_refl _) _⟩
  · have HR : Hid (rightB F S = false) := Lib.hid (h.resolve_left f0)
    have fe : (f == 0) = false := by rw [beq_eq_false_iff_ne]; exact f0
    clear h f0
    go_enter Try.func25, Try.ntmps25
    go_wp2_with (first
      | (go_at_call 47; refine (form_any _ _).mono ?_; rintro e w' ⟨rfl, rfl⟩; rw [HF.out])
      | (go_at_call 19; refine (right_any _ _ _).mono ?_; rintro e w1 ⟨rfl, hb1⟩; rw [HR.out]))
    go_ret2
    exact ⟨rfl, ((Below.refl _ _).alloc (Nat.le_refl _) _).trans (hb1.mono (by simp))⟩
set_option maxHeartbeats 1000000 in
theorem enc_one (enc f : Int) (F : B64) (w : World) (hf : formV enc = f) (f0 : f ≠ 0) (hr : rightB F 0#64 = true) :
    Calls Try.prog 25 #[.int .i64 enc, .agg #[.int .u64 (iv F), .int .u64 (iv 0#64)]] w fun e w' => e = .returned (.tuple #[.string (writtenV f (iv F)), .int .i64 0]) ∧ Below w.heap.size w w' := by
  have HF := Lib.hid hf
  have HR := Lib.hid hr
  have fe : (f == 0) = false := by rw [beq_eq_false_iff_ne]; exact f0
  have z : iv 0#64 = 0 := rfl
  have R := iv_rng F
  obtain ⟨r0, r1⟩ := R
  have R0 := Lib.hid r0
  have R1 := Lib.hid r1
  clear hf hr f0 r0 r1
  go_enter Try.func25, Try.ntmps25
  go_wp2_with (first
    | (go_at_call 47; refine (form_any _ _).mono ?_; rintro e w' ⟨rfl, rfl⟩; rw [HF.out])
    | (go_at_call 19; refine (right_any F 0#64 _).mono ?_; rintro e w1 ⟨rfl, hb1⟩; rw [HR.out]; have hX := (Blk.new w 24 #[.int .u64 (iv F), .int .u64 0]).below hb1 (by simp); have x0 := hX.cell 0; have x1 := hX.cell 1; simp at x0 x1; have hbx := ((Below.refl _ w).alloc (Nat.le_refl _) (.cells #[.int .u64 (iv F), .int .u64 0] 24)).trans (hb1.mono (by simp)); clear hX hb1)
    | (go_at_call 48; refine (written_any _ _ _ R0.out R1.out).mono ?_; rintro e w2 ⟨rfl, hb2⟩))
  go_ret2
  exact ⟨rfl, hbx.trans (hb2.mono hbx.size)⟩
set_option maxRecDepth 100000 in
set_option maxHeartbeats 1000000 in
theorem enc_two8 (enc f : Int) (F S : B64) (hw : ∀ X, (writtenV f X).size = 8) (w : World) (hf : formV enc = f) (f0 : f ≠ 0) (hr : rightB F S = true) (hs : iv S ≠ 0) :
    Calls Try.prog 25 #[.int .i64 enc, .agg #[.int .u64 (iv F), .int .u64 (iv S)]] w fun e w' => e = .returned (.tuple #[.string (writtenV f (iv F + 9223372036854775808) ++ writtenV f (iv S)), .int .i64 0]) ∧ Below w.heap.size w w' := by
  have HF := Lib.hid hf
  have HR := Lib.hid hr
  have fe : (f == 0) = false := by rw [beq_eq_false_iff_ne]; exact f0
  have se : (iv S == 0) = false := by rw [beq_eq_false_iff_ne]; exact hs
  obtain ⟨a1, a2⟩ := (right_iff F S).1 hr
  obtain ⟨r0, r1⟩ := iv_rng F
  obtain ⟨s0, s1⟩ := iv_rng S
  have O := or_top (iv F) r0 a1
  have T0 : Hid (0 ≤ iv F + 9223372036854775808) := by show _ ≤ _; omega
  have T1 : Hid (iv F + 9223372036854775808 < 18446744073709551616) := by show _ < _; omega
  have S0 := Lib.hid s0
  have S1 := Lib.hid s1
  obtain ⟨t, ht⟩ : ∃ t, iv F + 9223372036854775808 = t := ⟨_, rfl⟩
  rw [ht] at O T0 T1 ⊢
  clear hf hr f0 hs a1 a2 r0 r1 s0 s1 ht
  go_enter Try.func25, Try.ntmps25
  go_wp2_with (first
    | (go_at_call 47; refine (form_any _ _).mono ?_; rintro e w' ⟨rfl, rfl⟩; rw [HF.out])
    | (go_at_call 19; refine (right_any F S _).mono ?_; rintro e w1 ⟨rfl, hb1⟩; rw [HR.out]; have hX := (Blk.new w 24 #[.int .u64 (iv F), .int .u64 (iv S)]).below hb1 (by simp); have x0 := hX.cell 0; have x1 := hX.cell 1; simp at x0 x1; have hbx := ((Below.refl _ w).alloc (Nat.le_refl _) (.cells #[.int .u64 (iv F), .int .u64 (iv S)] 24)).trans (hb1.mono (by simp)); have hlt : w.heap.size < w1.heap.size := (by have := hb1.size; simp at this; omega); clear hX hb1))
  have hsz := hbx.size
  go_region_held3 (fun w' => w'.cell? ⟨w.heap.size, 0, none⟩ = some (.int .u64 (iv F)) ∧ w'.cell? ⟨w.heap.size, 1, none⟩ = some (.int .u64 (iv S)) ∧ w.heap.size < w'.heap.size ∧ w.heap.size ≤ w'.heap.size ∧ Below w.heap.size w w')
    (first | exact keepE (by assumption) (by assumption) | exact keepE (keepE_drew (by assumption)) (by assumption) | exact keepE_drew ⟨x0, x1, hlt, hsz, hbx⟩ | exact keepE_drew (by assumption) | assumption)
    ((first | (go_at_call_of 48 (Value.int IntKind.u64 t); refine (written_any _ _ _ T0.out T1.out).mono ?_; rintro e w' ⟨rfl, hb⟩) | (go_at_call 48; refine (written_any _ _ _ S0.out S1.out).mono ?_; rintro e w' ⟨rfl, hb⟩)))
  all_goals
    rename_i HL
    go_wp2
    go_ret2
    exact ⟨rfl, HL.2.2.2.2⟩
set_option maxRecDepth 100000 in
set_option maxHeartbeats 1000000 in
theorem enc_two16 (enc f : Int) (F S : B64) (hw : ∀ X, (writtenV f X).size = 16) (w : World) (hf : formV enc = f) (f0 : f ≠ 0) (hr : rightB F S = true) (hs : iv S ≠ 0) :
    Calls Try.prog 25 #[.int .i64 enc, .agg #[.int .u64 (iv F), .int .u64 (iv S)]] w fun e w' => e = .returned (.tuple #[.string (writtenV f (iv F + 9223372036854775808) ++ writtenV f (iv S)), .int .i64 0]) ∧ Below w.heap.size w w' := by
  have HF := Lib.hid hf
  have HR := Lib.hid hr
  have fe : (f == 0) = false := by rw [beq_eq_false_iff_ne]; exact f0
  have se : (iv S == 0) = false := by rw [beq_eq_false_iff_ne]; exact hs
  obtain ⟨a1, a2⟩ := (right_iff F S).1 hr
  obtain ⟨r0, r1⟩ := iv_rng F
  obtain ⟨s0, s1⟩ := iv_rng S
  have O := or_top (iv F) r0 a1
  have T0 : Hid (0 ≤ iv F + 9223372036854775808) := by show _ ≤ _; omega
  have T1 : Hid (iv F + 9223372036854775808 < 18446744073709551616) := by show _ < _; omega
  have S0 := Lib.hid s0
  have S1 := Lib.hid s1
  obtain ⟨t, ht⟩ : ∃ t, iv F + 9223372036854775808 = t := ⟨_, rfl⟩
  rw [ht] at O T0 T1 ⊢
  clear hf hr f0 hs a1 a2 r0 r1 s0 s1 ht
  go_enter Try.func25, Try.ntmps25
  go_wp2_with (first
    | (go_at_call 47; refine (form_any _ _).mono ?_; rintro e w' ⟨rfl, rfl⟩; rw [HF.out])
    | (go_at_call 19; refine (right_any F S _).mono ?_; rintro e w1 ⟨rfl, hb1⟩; rw [HR.out]; have hX := (Blk.new w 24 #[.int .u64 (iv F), .int .u64 (iv S)]).below hb1 (by simp); have x0 := hX.cell 0; have x1 := hX.cell 1; simp at x0 x1; have hbx := ((Below.refl _ w).alloc (Nat.le_refl _) (.cells #[.int .u64 (iv F), .int .u64 (iv S)] 24)).trans (hb1.mono (by simp)); have hlt : w.heap.size < w1.heap.size := (by have := hb1.size; simp at this; omega); clear hX hb1))
  have hsz := hbx.size
  go_region_held3 (fun w' => w'.cell? ⟨w.heap.size, 0, none⟩ = some (.int .u64 (iv F)) ∧ w'.cell? ⟨w.heap.size, 1, none⟩ = some (.int .u64 (iv S)) ∧ w.heap.size < w'.heap.size ∧ w.heap.size ≤ w'.heap.size ∧ Below w.heap.size w w')
    (first | exact keepE (by assumption) (by assumption) | exact keepE (keepE_drew (by assumption)) (by assumption) | exact keepE_drew ⟨x0, x1, hlt, hsz, hbx⟩ | exact keepE_drew (by assumption) | assumption)
    ((first | (go_at_call_of 48 (Value.int IntKind.u64 t); refine (written_any _ _ _ T0.out T1.out).mono ?_; rintro e w' ⟨rfl, hb⟩) | (go_at_call 48; refine (written_any _ _ _ S0.out S1.out).mono ?_; rintro e w' ⟨rfl, hb⟩)))
  all_goals
    rename_i HL
    go_wp2
    go_ret2
    exact ⟨rfl, HL.2.2.2.2⟩
theorem written_size (f X : Int) : (writtenV f X).size = if f = 1 then 8 else 16 := by
  unfold writtenV; rw [son_size, numsOf_len]
theorem encode_any (enc : Int) (F S : B64) (w : World) :
    Calls Try.prog 25 #[.int .i64 enc, .agg #[.int .u64 (iv F), .int .u64 (iv S)]] w fun e w' => e = .returned (.tuple #[.string (encodeV enc (iv F) (iv S)).1, .int .i64 (encodeV enc (iv F) (iv S)).2]) ∧ Below w.heap.size w w' := by
  have hri := right_iff F S
  by_cases hbad : formV enc = 0 ∨ rightB F S = false
  · have e : encodeV enc (iv F) (iv S) = (ByteArray.empty, 1) := by
      unfold encodeV
      rw [if_pos]
      rcases hbad with h | h
      · exact .inl h
      · rw [h] at hri
        simp only [Bool.false_eq_true, false_iff] at hri
        omega
    rw [e]; exact enc_bad enc F S w hbad
  · have f0 : formV enc ≠ 0 := fun h => hbad (.inl h)
    have hr : rightB F S = true := by
      cases h : rightB F S
      · exact absurd (.inr h) hbad
      · rfl
    obtain ⟨a1, a2⟩ := hri.1 hr
    by_cases hs : iv S = 0
    · have e : encodeV enc (iv F) (iv S) = (writtenV (formV enc) (iv F), 0) := by
        unfold encodeV
        rw [if_neg (by omega), if_pos hs]
      rw [e]
      obtain rfl : S = 0#64 := iv_inj (by rw [hs]; rfl)
      exact enc_one enc _ F w rfl f0 hr
    · have e : encodeV enc (iv F) (iv S) = (writtenV (formV enc) (iv F + 9223372036854775808) ++ writtenV (formV enc) (iv S), 0) := by
        unfold encodeV
        rw [if_neg (by omega), if_neg hs]
      rw [e]
      by_cases f1 : formV enc = 1
      · exact enc_two8 enc _ F S (fun X => by rw [written_size, if_pos f1]) w rfl f0 hr hs
      · exact enc_two16 enc _ F S (fun X => by rw [written_size, if_neg f1]) w rfl f0 hr hs
end Go.Proofs.Ytieloocmkgficaa
