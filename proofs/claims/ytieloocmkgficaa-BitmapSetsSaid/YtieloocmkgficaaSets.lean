/-
  BitmapSets: the walk.
-/
import Derived.Test.YtieloocmkgficaaSetsP
import Derived.Deep.RegionHeld3
namespace Go.Proofs.Ytieloocmkgficaa
open Go.RowKit
set_option linter.unusedVariables false
set_option linter.unusedSimpArgs false
/-- A map's block. -/
abbrev MB (w : World) (g : Nat) (F S : B64) : Prop := Blk w g 24 #[.int .u64 (iv F), .int .u64 (iv S)]
structure S4 (w0 w : World) (g0 g1 g2 g3 : Nat) (F S F' S' A A' B B' : B64) : Prop where
  m : MB w g0 F S
  o : MB w g1 F' S'
  a : MB w g2 A A'
  b : MB w g3 B B'
  low : w0.heap.size ≤ w.heap.size
  below : Below w0.heap.size w0 w
theorem S4.next {w0 w w' : World} {g0 g1 g2 g3 : Nat} {F S F' S' A A' B B' : B64} (h : S4 w0 w g0 g1 g2 g3 F S F' S' A A' B B') (hb : Below w.heap.size w w') : S4 w0 w' g0 g1 g2 g3 F S F' S' A A' B B' :=
  ⟨h.m.below hb h.m.lt, h.o.below hb h.o.lt, h.a.below hb h.a.lt, h.b.below hb h.b.lt, Nat.le_trans h.low hb.size, h.below.trans (hb.mono h.low)⟩
theorem MB.c0 {w : World} {g : Nat} {F S : B64} (h : MB w g F S) : w.cell? ⟨g, 0, none⟩ = some (.int .u64 (iv F)) := h.cell 0
theorem MB.c1 {w : World} {g : Nat} {F S : B64} (h : MB w g F S) : w.cell? ⟨g, 1, none⟩ = some (.int .u64 (iv S)) := h.cell 1
theorem has_is (F S : B64) (n : Int) (v : Bool) (w : World) (h : hasB F S n = v) : Calls Try.prog 14 #[.agg #[.int .u64 (iv F), .int .u64 (iv S)], .int .i64 n] w fun e w' => e = .returned (.bool v) ∧ Below w.heap.size w w' := by
  subst h; exact has_any F S n w
theorem keepS {F S A A' B B' X XS Y YS : B64} {gm ga gb gx gy gz Bd : Nat} {w0 W w' : World}
    (hS : W.cell? ⟨gm, 0, none⟩ = some (.int .u64 (iv F)) ∧ W.cell? ⟨gm, 1, none⟩ = some (.int .u64 (iv S)) ∧ W.cell? ⟨ga, 0, none⟩ = some (.int .u64 (iv A)) ∧ W.cell? ⟨ga, 1, none⟩ = some (.int .u64 (iv A')) ∧ W.cell? ⟨gb, 0, none⟩ = some (.int .u64 (iv B)) ∧ W.cell? ⟨gb, 1, none⟩ = some (.int .u64 (iv B')) ∧ W.cell? ⟨gx, 0, none⟩ = some (.int .u64 (iv X)) ∧ W.cell? ⟨gx, 1, none⟩ = some (.int .u64 (iv XS)) ∧ W.cell? ⟨gy, 0, none⟩ = some (.int .u64 (iv Y)) ∧ W.cell? ⟨gy, 1, none⟩ = some (.int .u64 (iv YS)) ∧ W.cell? ⟨gz, 0, none⟩ = some (.int .u64 (iv X)) ∧ W.cell? ⟨gz, 1, none⟩ = some (.int .u64 (iv XS)) ∧ gm < W.heap.size ∧ ga < W.heap.size ∧ gb < W.heap.size ∧ gx < W.heap.size ∧ gy < W.heap.size ∧ gz < W.heap.size ∧ Bd ≤ W.heap.size ∧ Below Bd w0 W)
    (hb : Below W.heap.size W w') :
    w'.cell? ⟨gm, 0, none⟩ = some (.int .u64 (iv F)) ∧ w'.cell? ⟨gm, 1, none⟩ = some (.int .u64 (iv S)) ∧ w'.cell? ⟨ga, 0, none⟩ = some (.int .u64 (iv A)) ∧ w'.cell? ⟨ga, 1, none⟩ = some (.int .u64 (iv A')) ∧ w'.cell? ⟨gb, 0, none⟩ = some (.int .u64 (iv B)) ∧ w'.cell? ⟨gb, 1, none⟩ = some (.int .u64 (iv B')) ∧ w'.cell? ⟨gx, 0, none⟩ = some (.int .u64 (iv X)) ∧ w'.cell? ⟨gx, 1, none⟩ = some (.int .u64 (iv XS)) ∧ w'.cell? ⟨gy, 0, none⟩ = some (.int .u64 (iv Y)) ∧ w'.cell? ⟨gy, 1, none⟩ = some (.int .u64 (iv YS)) ∧ w'.cell? ⟨gz, 0, none⟩ = some (.int .u64 (iv X)) ∧ w'.cell? ⟨gz, 1, none⟩ = some (.int .u64 (iv XS)) ∧ gm < w'.heap.size ∧ ga < w'.heap.size ∧ gb < w'.heap.size ∧ gx < w'.heap.size ∧ gy < w'.heap.size ∧ gz < w'.heap.size ∧ Bd ≤ w'.heap.size ∧ Below Bd w0 w' := by
  obtain ⟨h0, h1, h2, h3, h4, h5, h6, h7, h8, h9, h10, h11, h12, h13, h14, h15, h16, h17, h18, h19⟩ := hS
  exact ⟨(hb.cell (p := ⟨gm, 0, none⟩) h12).trans h0, (hb.cell (p := ⟨gm, 1, none⟩) h12).trans h1, (hb.cell (p := ⟨ga, 0, none⟩) h13).trans h2, (hb.cell (p := ⟨ga, 1, none⟩) h13).trans h3, (hb.cell (p := ⟨gb, 0, none⟩) h14).trans h4, (hb.cell (p := ⟨gb, 1, none⟩) h14).trans h5, (hb.cell (p := ⟨gx, 0, none⟩) h15).trans h6, (hb.cell (p := ⟨gx, 1, none⟩) h15).trans h7, (hb.cell (p := ⟨gy, 0, none⟩) h16).trans h8, (hb.cell (p := ⟨gy, 1, none⟩) h16).trans h9, (hb.cell (p := ⟨gz, 0, none⟩) h17).trans h10, (hb.cell (p := ⟨gz, 1, none⟩) h17).trans h11, Nat.lt_of_lt_of_le h12 hb.size, Nat.lt_of_lt_of_le h13 hb.size, Nat.lt_of_lt_of_le h14 hb.size, Nat.lt_of_lt_of_le h15 hb.size, Nat.lt_of_lt_of_le h16 hb.size, Nat.lt_of_lt_of_le h17 hb.size, Nat.le_trans h18 hb.size, h19.trans (hb.mono h18)⟩
theorem keepS_drew {F S A A' B B' X XS Y YS : B64} {gm ga gb gx gy gz Bd : Nat} {w0 W : World}
    (hS : W.cell? ⟨gm, 0, none⟩ = some (.int .u64 (iv F)) ∧ W.cell? ⟨gm, 1, none⟩ = some (.int .u64 (iv S)) ∧ W.cell? ⟨ga, 0, none⟩ = some (.int .u64 (iv A)) ∧ W.cell? ⟨ga, 1, none⟩ = some (.int .u64 (iv A')) ∧ W.cell? ⟨gb, 0, none⟩ = some (.int .u64 (iv B)) ∧ W.cell? ⟨gb, 1, none⟩ = some (.int .u64 (iv B')) ∧ W.cell? ⟨gx, 0, none⟩ = some (.int .u64 (iv X)) ∧ W.cell? ⟨gx, 1, none⟩ = some (.int .u64 (iv XS)) ∧ W.cell? ⟨gy, 0, none⟩ = some (.int .u64 (iv Y)) ∧ W.cell? ⟨gy, 1, none⟩ = some (.int .u64 (iv YS)) ∧ W.cell? ⟨gz, 0, none⟩ = some (.int .u64 (iv X)) ∧ W.cell? ⟨gz, 1, none⟩ = some (.int .u64 (iv XS)) ∧ gm < W.heap.size ∧ ga < W.heap.size ∧ gb < W.heap.size ∧ gx < W.heap.size ∧ gy < W.heap.size ∧ gz < W.heap.size ∧ Bd ≤ W.heap.size ∧ Below Bd w0 W) :
    W.drew.cell? ⟨gm, 0, none⟩ = some (.int .u64 (iv F)) ∧ W.drew.cell? ⟨gm, 1, none⟩ = some (.int .u64 (iv S)) ∧ W.drew.cell? ⟨ga, 0, none⟩ = some (.int .u64 (iv A)) ∧ W.drew.cell? ⟨ga, 1, none⟩ = some (.int .u64 (iv A')) ∧ W.drew.cell? ⟨gb, 0, none⟩ = some (.int .u64 (iv B)) ∧ W.drew.cell? ⟨gb, 1, none⟩ = some (.int .u64 (iv B')) ∧ W.drew.cell? ⟨gx, 0, none⟩ = some (.int .u64 (iv X)) ∧ W.drew.cell? ⟨gx, 1, none⟩ = some (.int .u64 (iv XS)) ∧ W.drew.cell? ⟨gy, 0, none⟩ = some (.int .u64 (iv Y)) ∧ W.drew.cell? ⟨gy, 1, none⟩ = some (.int .u64 (iv YS)) ∧ W.drew.cell? ⟨gz, 0, none⟩ = some (.int .u64 (iv X)) ∧ W.drew.cell? ⟨gz, 1, none⟩ = some (.int .u64 (iv XS)) ∧ gm < W.drew.heap.size ∧ ga < W.drew.heap.size ∧ gb < W.drew.heap.size ∧ gx < W.drew.heap.size ∧ gy < W.drew.heap.size ∧ gz < W.drew.heap.size ∧ Bd ≤ W.drew.heap.size ∧ Below Bd w0 W.drew := by
  obtain ⟨h0, h1, h2, h3, h4, h5, h6, h7, h8, h9, h10, h11, h12, h13, h14, h15, h16, h17, h18, h19⟩ := hS
  exact ⟨h0, h1, h2, h3, h4, h5, h6, h7, h8, h9, h10, h11, h12, h13, h14, h15, h16, h17, h18, h19.drew⟩
set_option maxRecDepth 100000 in
set_option maxHeartbeats 16000000 in
theorem sets_walk (F S F' S' : B64) (raw : Int) (h1 : -9223372036854775808 ≤ raw) (h2 : raw ≤ 9223372036854775807) (w : World) :
    Calls Try.prog 3 #[.agg #[.int .u64 (iv F), .int .u64 (iv S)], .agg #[.int .u64 (iv F'), .int .u64 (iv S')], .int .i64 raw] w fun e w' => e = .returned (.bool true) ∧ Below w.heap.size w w' := by
  have HA : Hid (∀ n, hasB (pl (F &&& F')) (pl (S &&& S')) n = (hasB F S n && hasB F' S' n)) := has_and F S F' S'
  have HL : Hid (∀ n, hasB (pl (F &&& ~~~F')) (pl (S &&& ~~~S')) n = (hasB F S n && !hasB F' S' n)) := has_less F S F' S'
  have HRA : Hid (rightB (pl (F &&& F')) (pl (S &&& S')) = true) := right_pl _ _
  have HRL : Hid (rightB (pl (F &&& ~~~F')) (pl (S &&& ~~~S')) = true) := right_pl _ _
  have HN : Hid (lenV (pl (F &&& F')) (pl (S &&& S')) + lenV (pl (F &&& ~~~F')) (pl (S &&& ~~~S')) = lenV F S) := sets_len F S F' S'
  obtain ⟨A, hA⟩ : ∃ A, pl (F &&& F') = A := ⟨_, rfl⟩
  obtain ⟨A', hA'⟩ : ∃ A, pl (S &&& S') = A := ⟨_, rfl⟩
  obtain ⟨B, hB⟩ : ∃ A, pl (F &&& ~~~F') = A := ⟨_, rfl⟩
  obtain ⟨B', hB'⟩ : ∃ A, pl (S &&& ~~~S') = A := ⟨_, rfl⟩
  rw [hA, hA'] at HA HRA HN
  rw [hB, hB'] at HL HRL HN
  have QA : Hid (∀ w, Calls Try.prog 12 #[.agg #[.int .u64 (iv F), .int .u64 (iv S)], .agg #[.int .u64 (iv F'), .int .u64 (iv S')]] w fun e w' => e = .returned (.agg #[.int .u64 (iv A), .int .u64 (iv A')]) ∧ Below w.heap.size w w') := by
    show ∀ w, _
    intro w; rw [← hA, ← hA']; exact and_any F S F' S' w
  have QB : Hid (∀ w, Calls Try.prog 13 #[.agg #[.int .u64 (iv F), .int .u64 (iv S)], .agg #[.int .u64 (iv F'), .int .u64 (iv S')]] w fun e w' => e = .returned (.agg #[.int .u64 (iv B), .int .u64 (iv B')]) ∧ Below w.heap.size w w') := by
    show ∀ w, _
    intro w; rw [← hB, ← hB']; exact less_any F S F' S' w
  clear hA hA' hB hB'
  obtain ⟨N, hN⟩ : ∃ N, fieldP raw = N := ⟨_, rfl⟩
  have hfN : fldB N = true := by rw [← hN]; exact fieldP_fld raw
  have QN : Hid (∀ w, Calls Try.prog 15 #[.int .i64 raw] w fun e w' => e = .returned (.int .i64 N) ∧ w = w') := by
    show ∀ w, _
    intro w; rw [← hN]; exact lawfield_any raw w h1 h2
  obtain ⟨f1, f2, f3, f4, f5, f6, f7, f8⟩ := sets_facts A A' N hfN HRA.out
  obtain ⟨X, hX⟩ : ∃ X, wF A A' N = X := ⟨_, rfl⟩
  obtain ⟨XS, hXS⟩ : ∃ X, wS A A' N = X := ⟨_, rfl⟩
  rw [hX, hXS] at f2 f3 f4 f5 f6 f7 f8
  obtain ⟨Y, hY⟩ : ∃ X', woF X N = X' := ⟨_, rfl⟩
  obtain ⟨YS, hYS⟩ : ∃ X', woS XS N = X' := ⟨_, rfl⟩
  rw [hY, hYS] at f2 f3 f4 f5 f7 f8
  have QX : Hid (∀ w, Calls Try.prog 16 #[.agg #[.int .u64 (iv A), .int .u64 (iv A')], .int .i64 N] w fun e w' => e = .returned (.tuple #[.agg #[.int .u64 (iv X), .int .u64 (iv XS)], .int .i64 0]) ∧ Below w.heap.size w w') := by
    show ∀ w, _
    intro w; have h := with_any A A' N w; rw [hX, hXS, f1] at h; exact h
  have QY : Hid (∀ w, Calls Try.prog 17 #[.agg #[.int .u64 (iv X), .int .u64 (iv XS)], .int .i64 N] w fun e w' => e = .returned (.agg #[.int .u64 (iv Y), .int .u64 (iv YS)]) ∧ Below w.heap.size w w') := by
    show ∀ w, _
    intro w; have h := without_any X XS N w; rw [hY, hYS] at h; exact h
  have QZ : Hid (∀ w, Calls Try.prog 16 #[.agg #[.int .u64 (iv Y), .int .u64 (iv YS)], .int .i64 N] w fun e w' => e = .returned (.tuple #[.agg #[.int .u64 (iv X), .int .u64 (iv XS)], .int .i64 0]) ∧ Below w.heap.size w w') := by
    show ∀ w, _
    intro w; have h := with_any Y YS N w; rw [f3, f4, f5] at h; exact h
  obtain ⟨hd, hhd⟩ : ∃ b, hasB A A' N = b := ⟨_, rfl⟩
  rw [hhd] at f8
  have HD : Hid (hasB A A' N = hd) := hhd
  have HE : Hid ((Y == A && YS == A') = !hd) := f8
  clear hhd
  have HXn : Hid (hasB X XS N = true) := f6
  have HYn : Hid (hasB Y YS N = false) := f7
  have HW : Hid (IntKind.i64.wrap (nv (lenV A A') + nv (lenV B B')) = nv (lenV F S)) := by
    show _ = _
    have e : nv (lenV A A') + nv (lenV B B') = nv (lenV F S) := by have := HN.out; unfold nv; omega
    rw [e]
    have l1 := pcN_le 64 (pl F).toNat
    have l2 := pcN_le 64 (pl S).toNat
    exact IntWalk.i64_in _ (by unfold nv lenV; omega)
  clear f1 f2 f3 f4 f5 f6 f7 f8 hX hXS hY hYS hfN hN h1 h2
  go_enter Try.func3, Try.ntmps3
  go_wp2_with (first
    | (go_at_call 11; refine (examples_ok _).mono ?_; rintro e w1 ⟨rfl, hb1⟩; have hm1 : MB w1 w.heap.size F S := ((Blk.new w 24 #[.int .u64 (iv F), .int .u64 (iv S)]).alloc (.cells #[.int .u64 (iv F'), .int .u64 (iv S')] 24)).below hb1 (by simp; omega); have ho1 : MB w1 (w.heap.size + 1) F' S' := (Blk.new2 w (.cells #[.int .u64 (iv F), .int .u64 (iv S)] 24) 24 #[.int .u64 (iv F'), .int .u64 (iv S')]).below hb1 (by simp); have hB1 : Below w.heap.size w w1 := (below2 w (.cells #[.int .u64 (iv F), .int .u64 (iv S)] 24) (.cells #[.int .u64 (iv F'), .int .u64 (iv S')] 24)).trans (hb1.mono (by simp; omega)); have x0 := hm1.c0; have x1 := hm1.c1; have x2 := ho1.c0; have x3 := ho1.c1; have HM1 := Lib.hid hm1; have HO1 := Lib.hid ho1; have HB1 := Lib.hid hB1; clear hm1 ho1 hB1 hb1)
    | (go_at_call 12; refine (QA.out _).mono ?_; rintro e w2 ⟨rfl, hb2⟩; have hm2 : MB (w2.alloc (.cells #[.int .u64 (iv A), .int .u64 (iv A')] 24)) w.heap.size F S := (HM1.out.below hb2 HM1.out.lt).alloc _; have ho2 : MB (w2.alloc (.cells #[.int .u64 (iv A), .int .u64 (iv A')] 24)) (w.heap.size + 1) F' S' := (HO1.out.below hb2 HO1.out.lt).alloc _; have ha2 : MB (w2.alloc (.cells #[.int .u64 (iv A), .int .u64 (iv A')] 24)) w2.heap.size A A' := Blk.new w2 24 _; have hB2 : Below w.heap.size w (w2.alloc (.cells #[.int .u64 (iv A), .int .u64 (iv A')] 24)) := (HB1.out.trans (hb2.mono HB1.out.size)).alloc (Nat.le_trans HB1.out.size hb2.size) _; have y0 := hm2.c0; have y1 := hm2.c1; have y2 := ho2.c0; have y3 := ho2.c1; have HM2 := Lib.hid hm2; have HO2 := Lib.hid ho2; have HA2 := Lib.hid ha2; have HB2 := Lib.hid hB2; clear hm2 ho2 ha2 hB2 hb2)
    | (go_at_call 13; refine (QB.out _).mono ?_; rintro e w3 ⟨rfl, hb3⟩; have HS := Lib.hid (S4.mk (w0 := w) ((HM2.out.below hb3 HM2.out.lt).alloc (.cells #[.int .u64 (iv B), .int .u64 (iv B')] 24)) ((HO2.out.below hb3 HO2.out.lt).alloc _) ((HA2.out.below hb3 HA2.out.lt).alloc _) (Blk.new w3 24 _) (Nat.le_trans (Nat.le_trans HB2.out.size hb3.size) (by simp)) ((HB2.out.trans (hb3.mono HB2.out.size)).alloc (Nat.le_trans HB2.out.size hb3.size) _)); clear hb3))
  go_loopw [10] (fun i wr => ∃ k : Nat, k ≤ 130 ∧ i = .int .i64 k ∧ S4 w wr w.heap.size (w.heap.size + 1) w2.heap.size w3.heap.size F S F' S' A A' B B') (fun i _ => 130 - (intOf i).toNat)
  case atStart => exact ⟨0, by omega, rfl, HS.out⟩
  case round =>
    clear HS HM1 HO1 HB1 HM2 HO2 HA2 HB2 x0 x1 x2 x3 y0 y1 y2 y3
    obtain ⟨k, hk, rfl, hs⟩ := hrel
    have x0 := hs.m.c0
    have x1 := hs.m.c1
    have x2 := hs.o.c0
    have x3 := hs.o.c1
    have x4 := hs.a.c0
    have x5 := hs.a.c1
    have x6 := hs.b.c0
    have x7 := hs.b.c1
    have HS := Lib.hid hs
    clear hs
    by_cases hlt : k < 130
    · have ha := HA.out (k : Int)
      have hl := HL.out (k : Int)
      cases hp : hasB F S (k : Int) <;> cases hq : hasB F' S' (k : Int) <;> rw [hp, hq] at ha hl
      all_goals
        simp only [Bool.and_self, Bool.and_false, Bool.and_true, Bool.false_and, Bool.true_and, Bool.not_true, Bool.not_false] at ha hl
        have TP := Lib.hid hp
        have TQ := Lib.hid hq
        have TA := Lib.hid ha
        have TL := Lib.hid hl
        clear hp hq ha hl HA HL HRA HRL HN QA QB QN QX QY QZ HE HD HXn HYn HW
        go_wp2_with (go_at_call 14; refine (has_any _ _ _ _).mono ?_; rintro e w' ⟨rfl, hb⟩; (first | rw [TP.out] | rw [TQ.out] | rw [TA.out] | rw [TL.out]); replace HS := Lib.hid (HS.out.next hb); have x0 := HS.out.m.c0; have x1 := HS.out.m.c1; have x2 := HS.out.o.c0; have x3 := HS.out.o.c1; have x4 := HS.out.a.c0; have x5 := HS.out.a.c1; have x6 := HS.out.b.c0; have x7 := HS.out.b.c1; clear hb)
        go_roundw
        case rel => exact ⟨k + 1, by omega, by go_num, HS.out⟩
        case measure => simp [intOf]; omega
    · have hk2 : k = 130 := by omega
      subst hk2
      clear HA HL hlt hk
      go_wp2_with (first
        | (go_at_call 15; refine (QN.out _).mono ?_; rintro e w' ⟨rfl, rfl⟩)
        | (go_at_call 16; refine (QX.out _).mono ?_; rintro e w4 ⟨rfl, hb4⟩; have HS4 := Lib.hid (HS.out.next hb4); have hx4 := Blk.new w4 24 #[.int .u64 (iv X), .int .u64 (iv XS)]; have hX4 : MB (w4.alloc (.cells #[.int .u64 (iv X), .int .u64 (iv XS)] 24)) w4.heap.size X XS := hx4; have z0 := hX4.c0; have z1 := hX4.c1; have HX4 := Lib.hid hX4; clear hX4 hx4 QX hb4)
        | (go_at_call 17; refine (QY.out _).mono ?_; rintro e w5 ⟨rfl, hb5⟩; have HS5 := Lib.hid ((HS4.out.next ((Below.refl _ _).alloc (Nat.le_refl _) (.cells #[.int .u64 (iv X), .int .u64 (iv XS)] 24))).next hb5); have HX5 := Lib.hid (HX4.out.below hb5 HX4.out.lt); have hY5 : MB (w5.alloc (.cells #[.int .u64 (iv Y), .int .u64 (iv YS)] 24)) w5.heap.size Y YS := Blk.new w5 24 _; have z2 := hY5.c0; have z3 := hY5.c1; have HY5 := Lib.hid hY5; clear hY5 hb5)
        | (go_at_call 16; refine (QZ.out _).mono ?_; rintro e w6 ⟨rfl, hb6⟩; have HS6 := Lib.hid ((HS5.out.next ((Below.refl _ _).alloc (Nat.le_refl _) (.cells #[.int .u64 (iv Y), .int .u64 (iv YS)] 24))).next hb6); have HX6 := Lib.hid ((HX5.out.alloc (.cells #[.int .u64 (iv Y), .int .u64 (iv YS)] 24)).below hb6 ((HX5.out.alloc (.cells #[.int .u64 (iv Y), .int .u64 (iv YS)] 24)).lt)); have HY6 := Lib.hid (HY5.out.below hb6 HY5.out.lt); have hZ6 : MB (w6.alloc (.cells #[.int .u64 (iv X), .int .u64 (iv XS)] 24)) w6.heap.size X XS := Blk.new w6 24 _; have ha6 : MB (w6.alloc (.cells #[.int .u64 (iv X), .int .u64 (iv XS)] 24)) w2.heap.size A A' := HS6.out.a.alloc _; have z4 := ha6.c0; have z5 := ha6.c1; have HZ6 := Lib.hid hZ6; clear hZ6 ha6 hb6)
        | (go_at_call 14; refine (has_any _ _ _ _).mono ?_; rintro e w7 ⟨rfl, hb7⟩; rw [HD.out]; have HS7 := Lib.hid ((HS6.out.next ((Below.refl _ _).alloc (Nat.le_refl _) (.cells #[.int .u64 (iv X), .int .u64 (iv XS)] 24))).next hb7); have HX7 := Lib.hid ((HX6.out.alloc (.cells #[.int .u64 (iv X), .int .u64 (iv XS)] 24)).below hb7 ((HX6.out.alloc (.cells #[.int .u64 (iv X), .int .u64 (iv XS)] 24)).lt)); have HY7 := Lib.hid ((HY6.out.alloc (.cells #[.int .u64 (iv X), .int .u64 (iv XS)] 24)).below hb7 ((HY6.out.alloc (.cells #[.int .u64 (iv X), .int .u64 (iv XS)] 24)).lt)); have HZ7 := Lib.hid (HZ6.out.below hb7 HZ6.out.lt); clear hb7))
      have c0 := HS7.out.m.c0
      have c1 := HS7.out.m.c1
      have c2 := HS7.out.a.c0
      have c3 := HS7.out.a.c1
      have c4 := HS7.out.b.c0
      have c5 := HS7.out.b.c1
      have c6 := MB.c0 HX7.out
      have c7 := MB.c1 HX7.out
      have c8 := MB.c0 HY7.out
      have c9 := MB.c1 HY7.out
      have c10 := MB.c0 HZ7.out
      have c11 := MB.c1 HZ7.out
      have l0 := Blk.lt HS7.out.m
      have l1 := Blk.lt HS7.out.a
      have l2 := Blk.lt HS7.out.b
      have l3 := Blk.lt HX7.out
      have l4 := Blk.lt HY7.out
      have l5 := Blk.lt HZ7.out
      have low := HS7.out.low
      have bel := HS7.out.below
      have WW := HW.out
      have hE := HE.out
      clear HS4 HS5 HS6 HS7 HX4 HX5 HX6 HX7 HY5 HY6 HY7 HZ6 HZ7 HS z0 z1 z2 z3 z4 z5 x0 x1 x2 x3 x4 x5 x6 x7
      have HC : Hid ((iv Y == iv A) = true ∧ (iv YS == iv A') = true ∧ hd = false ∨ (iv Y == iv A) = true ∧ (iv YS == iv A') = false ∧ hd = true ∨ (iv Y == iv A) = false ∧ hd = true) := by
        show _ ∨ _
        rw [iv_beq, iv_beq]
        revert hE
        cases (Y == A) <;> cases (YS == A') <;> cases hd <;> simp
      clear hE HE
      rcases HC.out with ⟨q1, q2, rfl⟩ | ⟨q1, q2, rfl⟩ | ⟨q1, rfl⟩
      all_goals
        clear HC
        go_region_held3 (fun w' => w'.cell? ⟨w.heap.size, 0, none⟩ = some (.int .u64 (iv F)) ∧ w'.cell? ⟨w.heap.size, 1, none⟩ = some (.int .u64 (iv S)) ∧ w'.cell? ⟨w2.heap.size, 0, none⟩ = some (.int .u64 (iv A)) ∧ w'.cell? ⟨w2.heap.size, 1, none⟩ = some (.int .u64 (iv A')) ∧ w'.cell? ⟨w3.heap.size, 0, none⟩ = some (.int .u64 (iv B)) ∧ w'.cell? ⟨w3.heap.size, 1, none⟩ = some (.int .u64 (iv B')) ∧ w'.cell? ⟨w4.heap.size, 0, none⟩ = some (.int .u64 (iv X)) ∧ w'.cell? ⟨w4.heap.size, 1, none⟩ = some (.int .u64 (iv XS)) ∧ w'.cell? ⟨w5.heap.size, 0, none⟩ = some (.int .u64 (iv Y)) ∧ w'.cell? ⟨w5.heap.size, 1, none⟩ = some (.int .u64 (iv YS)) ∧ w'.cell? ⟨w6.heap.size, 0, none⟩ = some (.int .u64 (iv X)) ∧ w'.cell? ⟨w6.heap.size, 1, none⟩ = some (.int .u64 (iv XS)) ∧ w.heap.size < w'.heap.size ∧ w2.heap.size < w'.heap.size ∧ w3.heap.size < w'.heap.size ∧ w4.heap.size < w'.heap.size ∧ w5.heap.size < w'.heap.size ∧ w6.heap.size < w'.heap.size ∧ w.heap.size ≤ w'.heap.size ∧ Below w.heap.size w w')
          (first | exact keepS (by assumption) (by assumption) | exact keepS (keepS_drew (by assumption)) (by assumption) | exact keepS_drew ⟨c0, c1, c2, c3, c4, c5, c6, c7, c8, c9, c10, c11, l0, l1, l2, l3, l4, l5, low, bel⟩ | exact keepS_drew (by assumption) | assumption)
          ((first
            | (go_at_call 18; refine (len_any _ _ _).mono ?_; rintro e w' ⟨rfl, hb⟩)
            | (go_at_call 19; refine (right_any _ _ _).mono ?_; rintro e w' ⟨rfl, hb⟩; (first | rw [HRA.out] | rw [HRL.out]))
            | (go_at_call 14; refine (has_any _ _ _ _).mono ?_; rintro e w' ⟨rfl, hb⟩; (first | rw [HXn.out] | rw [HYn.out]))))
      all_goals
        rename_i HL
        obtain ⟨_, _, _, _, _, _, _, _, _, _, _, _, _, _, _, _, _, _, _, hbel⟩ := HL
        go_wp2
        go_ret
        exact ⟨rfl, hbel⟩
end Go.Proofs.Ytieloocmkgficaa
