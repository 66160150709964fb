/-
  SessionAnew: the walk.
-/
import Derived.Test.YtcdikjomiomnpaaAlike
namespace Go.Proofs.Ytcdikjomiomnpaa
open Go.RowKit
set_option linter.unusedVariables false
set_option linter.unusedSimpArgs false
theorem Ses.told {B : Nat} {w0 w w' : World} {b b' : Nat} {s s' : S} {y : Y} {e : Ending} (h : Ses B w0 b s w) (hne : b ≠ b') (hB : B ≤ b') (ht : Told B w0 b' w s' y e w') : Ses B w0 b s w' := h.other hne hB ht.2.2
theorem Ses.far3 {B : Nat} {w0 w : World} {b g : Nat} {s : S} (h : Ses B w0 b s w) (hne : b ≠ g) (hB : B ≤ g) (x y z : Value) : Ses B w0 b s (((w.setCell ⟨g, 0, none⟩ x).setCell ⟨g, 1, none⟩ y).setCell ⟨g, 2, none⟩ z) :=
  ((h.far hne hB _).far hne hB _).far hne hB _
theorem Blk.far3 {w : World} {b g : Nat} {t : TypeId} {cs : Array Value} (h : Blk w b t cs) (hne : b ≠ g) (x y z : Value) : Blk (((w.setCell ⟨g, 0, none⟩ x).setCell ⟨g, 1, none⟩ y).setCell ⟨g, 2, none⟩ z) b t cs :=
  Blk.far_ hne _ (Blk.far_ hne _ (Blk.far_ hne _ h))

set_option maxRecDepth 100000 in
set_option maxHeartbeats 6400000 in
theorem anew_1 (r c d : Int) (n m : Int) (A C : Option Addr) (la ca lc cc : Nat) (w : World) (r1 : -9223372036854775808 ≤ r) (r2 : r ≤ 9223372036854775807) (l1 : -9223372036854775808 ≤ c) (l2 : c ≤ 9223372036854775807) (l3 : -9223372036854775808 ≤ d) (l4 : d ≤ 9223372036854775807)
    (hr : pickP r 2 = 0) (hn : pickP c 30 = n) (hm : pickP d 20 = m) (hn0 : 0 ≤ n) (hn1 : n < 30) (hm0 : 0 ≤ m) (hm1 : m < 20) (hA : Things w w.heap.size A la) (hla : la ≤ 9223372036854775807) (hC : Things w w.heap.size C lc) (hlc : lc ≤ 9223372036854775807) :
    Calls Try.prog 8 #[.int .i64 r, .int .i64 c, .int .i64 d, .slice A la ca, .slice C lc cc] w fun e w' => e = .returned (.bool true) ∧ Below w.heap.size w w' := by
  have HM := Lib.hid hm
  have HN := Lib.hid hn
  have HR := Lib.hid hr
  clear hm hn hr
  go_enter Try.func8, Try.ntmps8
  go_wp2_with (first
    | (go_at_call_of 9 (Value.int IntKind.i64 r); refine (pick_is r 2 0 _ r1 r2 (by omega) (by omega) HR.out).mono ?_; rintro e w' ⟨rfl, rfl⟩)
    | (go_at_call_of 9 (Value.int IntKind.i64 c); refine (pick_is c 30 n _ l1 l2 (by omega) (by omega) HN.out).mono ?_; rintro e w' ⟨rfl, rfl⟩)
    | (go_at_call_of 9 (Value.int IntKind.i64 d); refine (pick_is d 20 m _ l3 l4 (by omega) (by omega) HM.out).mono ?_; rintro e w' ⟨rfl, rfl⟩)
    | (go_at_call 19; have tk := hn1; refine (new_ses (B := w.heap.size) (w0 := w) 1 n (1 + m) _ (Nat.le_refl _) (Below.refl _ _) (.inl rfl) (by omega) (by omega) (by omega) (by omega)).mono ?_; rintro e w1 ⟨b, hbe, rfl, hs1, hb1⟩; have hn9 : n ≤ 29 := (by omega); clear hn1 tk; have HB := Lib.hid hbe; clear hbe)
    | (go_at_call 19; refine (new_ses (B := w.heap.size) (w0 := w) 1 n (1 + m) _ hs1.2.2.2 hs1.2.2.1 (.inl rfl) (by omega) (by omega) (by omega) (by omega)).mono ?_; rintro e w2 ⟨g, hge, rfl, hs2, hb2⟩; have hbg : b < g := (by rw [hge]; exact hs1.lt); have hs1' := hs1.call hb2; have HE := Lib.hid hge; clear hge))
  have hBb : w.heap.size ≤ b := hs1.2.1
  have hBg : w.heap.size ≤ g := hs2.2.1
  clear hs1 hb1 hb2 HB HE
  go_loopw [18] (fun i wr => ∃ (k : Nat) (s : S), k ≤ la ∧ i = .int .i64 k ∧ OkS 1 n (1 + m) s ∧ Ses w.heap.size w b s wr ∧ Ses w.heap.size w g ⟨1, n, 1 + m, 0, 0, 0, 0⟩ wr) (fun i _ => la - (intOf i).toNat)
  case atStart => exact ⟨0, ⟨1, n, 1 + m, 0, 0, 0, 0⟩, by omega, rfl, by simp [OkS]; omega, hs1', hs2⟩
  case round =>
    obtain ⟨k, s, hk0, rfl, hok, hs, ht⟩ := hrel
    clear hs1' hs2
    by_cases hin : k < la
    · obtain ⟨ba, oa, v, co, an, rfl, hba, hv0, hv1, hv2, hv3, hv4⟩ := hA k hin
      have y0 : wr.cell? ⟨ba, oa + k * 3, none⟩ = some (.int .i64 v) := (hs.2.2.1.cell (p := ⟨ba, oa + k * 3, none⟩) hba).trans hv0
      have y1 : wr.cell? ⟨ba, oa + k * 3 + 1, none⟩ = some (.string co) := (hs.2.2.1.cell (p := ⟨ba, oa + k * 3 + 1, none⟩) hba).trans hv1
      have y2 : wr.cell? ⟨ba, oa + k * 3 + 2, none⟩ = some (.string an) := (hs.2.2.1.cell (p := ⟨ba, oa + k * 3 + 2, none⟩) hba).trans hv2
      clear hv0 hv1 hv2
      go_wp2_with (go_at_call 27; refine (told_any v _ co an hs (hok.good (.inl rfl) (by omega) (by omega) (by omega)) hv3 hv4 rfl).mono ?_; rintro e w3 htold; have ht3 := ht.told (by omega) hBb htold; obtain ⟨rfl, hs3, hg3⟩ := htold)
      go_roundw
      case rel => exact ⟨k + 1, _, by omega, by go_num, step_ok _ _ _ (.inl rfl) (by omega) (by omega) hok, hs3, ht3⟩
      case measure => simp [intOf]; omega
    · have hup : upS s = { s with state := 1 } ∧ upY s = ⟨{ data := #[] }, { data := #[] }, false⟩ := by
        have hro := hok.1
        constructor
        · simp [upS, hro]
        · simp [upY, hro]; rfl
      obtain ⟨s', hs'⟩ : ∃ s', upS s = s' := ⟨_, rfl⟩
      obtain ⟨t', ht'⟩ : ∃ t', upS ⟨1, n, 1 + m, 0, 0, 0, 0⟩ = t' := ⟨_, rfl⟩
      have hoks : OkS 1 n (1 + m) s' := by rw [← hs']; exact step_ok (k := 1) (n := n) (m := 1 + m) (s := s) 4 [] [] (.inl rfl) (by omega) (by omega) hok
      have hokt : OkS 1 n (1 + m) t' := by rw [← ht']; exact step_ok (k := 1) (n := n) (m := 1 + m) (s := ⟨1, n, 1 + m, 0, 0, 0, 0⟩) 4 [] [] (.inl rfl) (by omega) (by omega) (by simp [OkS]; omega)
      have hal : Alike s' t' := by
        rw [← hs', ← ht', hup.1]
        simp [upS, Alike]
      have hst : s'.state = 1 := by rw [← hs', hup.1]
      have htt : t'.state = 1 := by rw [← hal.1]; exact hst
      have HS := Lib.hid hs'
      have HT := Lib.hid ht'
      have HU := Lib.hid hup.2
      have HSS := Lib.hid hst
      have HTT := Lib.hid htt
      have hro := Lib.hid hok.1
      clear hs' ht' hup hst htt
      go_wp2_with (first
        | (go_at_call_of 20 (Value.pointer (some (Addr.mk b 0 none))); refine (up_ses s' { data := #[] } { data := #[] } false hs (by rw [hro.out]; exact (.inl rfl)) HS.out HU.out).mono ?_; rintro e w3 ⟨rfl, hs3, hg3⟩; have ht3 := ht.other (by omega) hBb hg3; have hl3 := hs3.lt; have hm3 := ht3.lt)
        | (go_at_call_of 20 (Value.pointer (some (Addr.mk g 0 none))); refine (up_ses t' { data := #[] } { data := #[] } false (ht3.alloc _) (.inl rfl) HT.out (by rfl)).mono ?_; rintro e w4 ⟨rfl, ht4, hg4⟩; have hs4 := (hs3.alloc _).other (by omega) hBg hg4; have hX := (Blk.new w3 27 #[.string { data := #[] }, .string { data := #[] }, .bool false]).grown hg4 (by intro e; injection e; omega); have hl4 := hX.lt; have d0 := hX.cell 0; have d1 := hX.cell 1; have d2 := hX.cell 2; simp at d0 d1 d2)
        | (go_at_call_of 13 (Value.pointer (some (Addr.mk b 0 none))); refine (state_ses 1 (hs4.alloc _) HSS.out).mono ?_; rintro e w' ⟨rfl, rfl⟩)
        | (go_at_call_of 13 (Value.pointer (some (Addr.mk g 0 none))); refine (state_ses 1 (ht4.alloc _) HTT.out).mono ?_; rintro e w' ⟨rfl, rfl⟩))
      have hY := Blk.new w4 27 #[.string { data := #[] }, .string { data := #[] }, .bool false]
      have hX5 := hX.alloc (.cells #[.string { data := #[] }, .string { data := #[] }, .bool false] 27)
      have hs5 := hs4.alloc (.cells #[.string { data := #[] }, .string { data := #[] }, .bool false] 27)
      have ht5 := ht4.alloc (.cells #[.string { data := #[] }, .string { data := #[] }, .bool false] 27)
      obtain ⟨gx, hgx⟩ : ∃ gx, gx = w3.heap.size := ⟨_, rfl⟩
      obtain ⟨gy, hgy⟩ : ∃ gy, gy = w4.heap.size := ⟨_, rfl⟩
      obtain ⟨w5, hw5⟩ : ∃ w5, w5 = w4.alloc (.cells #[.string { data := #[] }, .string { data := #[] }, .bool false] 27) := ⟨_, rfl⟩
      rw [← hw5, ← hgx] at hX5
      rw [← hw5] at hs5 ht5
      rw [← hw5, ← hgy] at hY
      rw [← hw5, ← hgx, ← hgy]
      have hxy : gx < gy := by omega
      have hbx : b < gx := by omega
      have hgx' : g < gx := by omega
      have hBx : w.heap.size ≤ gx := by omega
      have hBy : w.heap.size ≤ gy := by omega
      clear hw5 hgx hgy hX d0 d1 d2 hg3 hg4 hs3 ht3 hs4 ht4 hs ht hl3 hm3 hl4 HS HT HU HSS HTT hro hok
      go_loopw [21] (fun i wr => ∃ (k : Nat) (s t : S) (x0 x1 z0 z1 : ByteArray) (x2 z2 : Bool), k ≤ lc ∧ i = .int .i64 k ∧ OkS 1 n (1 + m) s ∧ OkS 1 n (1 + m) t ∧ Alike s t ∧ Ses w.heap.size w b s wr ∧ Ses w.heap.size w g t wr ∧ Blk wr gx 27 #[.string x0, .string x1, .bool x2] ∧ Blk wr gy 27 #[.string z0, .string z1, .bool z2]) (fun i _ => lc - (intOf i).toNat)
      case atStart => exact ⟨0, s', t', _, _, _, _, _, _, by omega, rfl, hoks, hokt, hal, hs5, ht5, hX5, hY⟩
      case round =>
        obtain ⟨j, s, t, x0, x1, z0, z1, x2, z2, hj0, rfl, hos, hot, hal, hs, ht, hX, hY⟩ := hrel
        clear hs5 ht5 hX5 hoks hokt
        by_cases hin2 : j < lc
        · obtain ⟨bc, oc, v, co, an, rfl, hbc, hv0, hv1, hv2, hv3, hv4⟩ := hC j hin2
          have y0 : wr.cell? ⟨bc, oc + j * 3, none⟩ = some (.int .i64 v) := (hs.2.2.1.cell (p := ⟨bc, oc + j * 3, none⟩) hbc).trans hv0
          have y1 : wr.cell? ⟨bc, oc + j * 3 + 1, none⟩ = some (.string co) := (hs.2.2.1.cell (p := ⟨bc, oc + j * 3 + 1, none⟩) hbc).trans hv1
          have y2 : wr.cell? ⟨bc, oc + j * 3 + 2, none⟩ = some (.string an) := (hs.2.2.1.cell (p := ⟨bc, oc + j * 3 + 2, none⟩) hbc).trans hv2
          obtain ⟨hal2, hsame⟩ := step_alike (pickP v 6) co an.toList hos hot hal
          have hos2 := step_ok (pickP v 6) co.toList an.toList (.inl rfl) (by omega) (by omega) hos
          have hot2 := step_ok (pickP v 6) co.toList an.toList (.inl rfl) (by omega) (by omega) hot
          have hg1 := hos.good (.inl rfl) (by omega) (by omega) (by omega)
          have hg2 := hot.good (.inl rfl) (by omega) (by omega) (by omega)
          obtain ⟨yc, ya, yl, hy⟩ : ∃ yc ya yl, stepY s (pickP v 6) co = ⟨yc, ya, yl⟩ := ⟨_, _, _, rfl⟩
          obtain ⟨s2, hs2⟩ : ∃ s2, stepS s (pickP v 6) co.toList an.toList = s2 := ⟨_, rfl⟩
          obtain ⟨t2, ht2⟩ : ∃ t2, stepS t (pickP v 6) co.toList an.toList = t2 := ⟨_, rfl⟩
          rw [hy] at hsame
          rw [hs2] at hal2 hos2
          rw [ht2] at hal2 hot2
          obtain ⟨sg, hsg⟩ : ∃ sg, s2.state = sg := ⟨_, rfl⟩
          have htg : t2.state = sg := by rw [← hal2.1]; exact hsg
          have HY1 := Lib.hid hy
          have HY2 := Lib.hid hsame.symm
          have HS2 := Lib.hid hs2
          have HT2 := Lib.hid ht2
          have HSG := Lib.hid hsg
          have HTG := Lib.hid htg
          clear hy hsame hs2 ht2 hsg htg
          go_wp2_with (first
            | (go_at_call_of 27 (Value.pointer (some (Addr.mk b 0 none))); refine (told_any v _ co an hs hg1 hv3 hv4 rfl).mono ?_; rintro e w6 htold; have ht6 := (ht.told (by omega) hBb htold).far3 (g := gx) (by omega) hBx (.string yc) (.string ya) (.bool yl); obtain ⟨rfl, hs6, hg6⟩ := htold; rw [HS2.out] at hs6; rw [HY1.out]; simp only [Y.val]; have hX6 := hX.grown hg6 (by intro e; injection e; omega); have hY6 := (hY.grown hg6 (by intro e; injection e; omega)).far3 (g := gx) (by omega) (.string yc) (.string ya) (.bool yl); have hX7 := hX6.store3 (.string yc) (.string ya) (.bool yl); have hs7 := hs6.far3 (g := gx) (by omega) hBx (.string yc) (.string ya) (.bool yl); have d0 := hX6.cell 0; have d1 := hX6.cell 1; have d2 := hX6.cell 2; have f0 := hX6.frozen 0; have f1 := hX6.frozen 1; have f2 := hX6.frozen 2; simp at d0 d1 d2; have yy0 : w6.cell? ⟨bc, oc + j * 3, none⟩ = some (.int .i64 v) := (hs6.2.2.1.cell (p := ⟨bc, oc + j * 3, none⟩) hbc).trans hv0; have yy1 : w6.cell? ⟨bc, oc + j * 3 + 1, none⟩ = some (.string co) := (hs6.2.2.1.cell (p := ⟨bc, oc + j * 3 + 1, none⟩) hbc).trans hv1; have yy2 : w6.cell? ⟨bc, oc + j * 3 + 2, none⟩ = some (.string an) := (hs6.2.2.1.cell (p := ⟨bc, oc + j * 3 + 2, none⟩) hbc).trans hv2; have hne : gx ≠ bc := (by omega); have hne' : bc ≠ gx := (by omega))
            | (go_at_call_of 27 (Value.pointer (some (Addr.mk g 0 none))); refine (told_any v _ co an ht6 hg2 hv3 hv4 rfl).mono ?_; rintro e w8 htold; have hs8 := (hs7.told (by omega) hBg htold).far3 (g := gy) (by omega) hBy (.string yc) (.string ya) (.bool yl); obtain ⟨rfl, ht8, hg8⟩ := htold; rw [HT2.out] at ht8; rw [HY2.out]; simp only [Y.val]; have hY8 := hY6.grown hg8 (by intro e; injection e; omega); have hX8 := (hX7.grown hg8 (by intro e; injection e; omega)); have ht9 := ht8.far3 (g := gy) (by omega) hBy (.string yc) (.string ya) (.bool yl); have q0 := hY8.cell 0; have q1 := hY8.cell 1; have q2 := hY8.cell 2; have p0 := hY8.frozen 0; have p1 := hY8.frozen 1; have p2 := hY8.frozen 2; have r0 := hX8.cell 0; have r1 := hX8.cell 1; have r2 := hX8.cell 2; simp at q0 q1 q2 r0 r1 r2; have hne2 : gx ≠ gy := (by omega); have hne3 : gy ≠ gx := (by omega))
            | (go_at_call_of 13 (Value.pointer (some (Addr.mk b 0 none))); refine (state_ses sg hs8 HSG.out).mono ?_; rintro e w' ⟨rfl, rfl⟩)
            | (go_at_call_of 13 (Value.pointer (some (Addr.mk g 0 none))); refine (state_ses sg ht9 HTG.out).mono ?_; rintro e w' ⟨rfl, rfl⟩)
            | (go_at_call_of 18 (Value.pointer (some (Addr.mk b 0 none))); refine (ready_ses _ hs8 (by rw [HSG.out])).mono ?_; rintro e w' ⟨rfl, rfl⟩)
            | (go_at_call_of 18 (Value.pointer (some (Addr.mk g 0 none))); refine (ready_ses _ ht9 (by rw [HTG.out])).mono ?_; rintro e w' ⟨rfl, rfl⟩))
          go_roundw
          case rel => exact ⟨j + 1, s2, t2, _, _, _, _, _, _, by omega, by go_num, hos2, hot2, hal2, hs8, ht9, hX8.far3 (by omega) _ _ _, hY8.store3 _ _ _⟩
          case measure => simp [intOf]; omega
        · go_wp2
          go_ret
          exact ⟨rfl, hs.2.2.1⟩

set_option maxRecDepth 100000 in
set_option maxHeartbeats 6400000 in
theorem anew_2 (r c d : Int) (n m : Int) (A C : Option Addr) (la ca lc cc : Nat) (w : World) (r1 : -9223372036854775808 ≤ r) (r2 : r ≤ 9223372036854775807) (l1 : -9223372036854775808 ≤ c) (l2 : c ≤ 9223372036854775807) (l3 : -9223372036854775808 ≤ d) (l4 : d ≤ 9223372036854775807)
    (hr : pickP r 2 = 1) (hn : pickP c 30 = n) (hm : pickP d 20 = m) (hn0 : 0 ≤ n) (hn1 : n < 30) (hm0 : 0 ≤ m) (hm1 : m < 20) (hA : Things w w.heap.size A la) (hla : la ≤ 9223372036854775807) (hC : Things w w.heap.size C lc) (hlc : lc ≤ 9223372036854775807) :
    Calls Try.prog 8 #[.int .i64 r, .int .i64 c, .int .i64 d, .slice A la ca, .slice C lc cc] w fun e w' => e = .returned (.bool true) ∧ Below w.heap.size w w' := by
  have HM := Lib.hid hm
  have HN := Lib.hid hn
  have HR := Lib.hid hr
  clear hm hn hr
  go_enter Try.func8, Try.ntmps8
  go_wp2_with (first
    | (go_at_call_of 9 (Value.int IntKind.i64 r); refine (pick_is r 2 1 _ r1 r2 (by omega) (by omega) HR.out).mono ?_; rintro e w' ⟨rfl, rfl⟩)
    | (go_at_call_of 9 (Value.int IntKind.i64 c); refine (pick_is c 30 n _ l1 l2 (by omega) (by omega) HN.out).mono ?_; rintro e w' ⟨rfl, rfl⟩)
    | (go_at_call_of 9 (Value.int IntKind.i64 d); refine (pick_is d 20 m _ l3 l4 (by omega) (by omega) HM.out).mono ?_; rintro e w' ⟨rfl, rfl⟩)
    | (go_at_call 19; have tk := hn1; refine (new_ses (B := w.heap.size) (w0 := w) 2 n (1 + m) _ (Nat.le_refl _) (Below.refl _ _) (.inr rfl) (by omega) (by omega) (by omega) (by omega)).mono ?_; rintro e w1 ⟨b, hbe, rfl, hs1, hb1⟩; have hn9 : n ≤ 29 := (by omega); clear hn1 tk; have HB := Lib.hid hbe; clear hbe)
    | (go_at_call 19; refine (new_ses (B := w.heap.size) (w0 := w) 2 n (1 + m) _ hs1.2.2.2 hs1.2.2.1 (.inr rfl) (by omega) (by omega) (by omega) (by omega)).mono ?_; rintro e w2 ⟨g, hge, rfl, hs2, hb2⟩; have hbg : b < g := (by rw [hge]; exact hs1.lt); have hs1' := hs1.call hb2; have HE := Lib.hid hge; clear hge))
  have hBb : w.heap.size ≤ b := hs1.2.1
  have hBg : w.heap.size ≤ g := hs2.2.1
  clear hs1 hb1 hb2 HB HE
  go_loopw [18] (fun i wr => ∃ (k : Nat) (s : S), k ≤ la ∧ i = .int .i64 k ∧ OkS 2 n (1 + m) s ∧ Ses w.heap.size w b s wr ∧ Ses w.heap.size w g ⟨2, n, 1 + m, 0, 0, 0, 0⟩ wr) (fun i _ => la - (intOf i).toNat)
  case atStart => exact ⟨0, ⟨2, n, 1 + m, 0, 0, 0, 0⟩, by omega, rfl, by simp [OkS]; omega, hs1', hs2⟩
  case round =>
    obtain ⟨k, s, hk0, rfl, hok, hs, ht⟩ := hrel
    clear hs1' hs2
    by_cases hin : k < la
    · obtain ⟨ba, oa, v, co, an, rfl, hba, hv0, hv1, hv2, hv3, hv4⟩ := hA k hin
      have y0 : wr.cell? ⟨ba, oa + k * 3, none⟩ = some (.int .i64 v) := (hs.2.2.1.cell (p := ⟨ba, oa + k * 3, none⟩) hba).trans hv0
      have y1 : wr.cell? ⟨ba, oa + k * 3 + 1, none⟩ = some (.string co) := (hs.2.2.1.cell (p := ⟨ba, oa + k * 3 + 1, none⟩) hba).trans hv1
      have y2 : wr.cell? ⟨ba, oa + k * 3 + 2, none⟩ = some (.string an) := (hs.2.2.1.cell (p := ⟨ba, oa + k * 3 + 2, none⟩) hba).trans hv2
      clear hv0 hv1 hv2
      go_wp2_with (go_at_call 27; refine (told_any v _ co an hs (hok.good (.inr rfl) (by omega) (by omega) (by omega)) hv3 hv4 rfl).mono ?_; rintro e w3 htold; have ht3 := ht.told (by omega) hBb htold; obtain ⟨rfl, hs3, hg3⟩ := htold)
      go_roundw
      case rel => exact ⟨k + 1, _, by omega, by go_num, step_ok _ _ _ (.inr rfl) (by omega) (by omega) hok, hs3, ht3⟩
      case measure => simp [intOf]; omega
    · have hup : upS s = { s with state := 2, wait := 0 } ∧ upY s = ⟨{ data := #[48, 48, 49] }, { data := #[] }, false⟩ := by
        have hro := hok.1
        constructor
        · simp [upS, hro]
        · simp [upY, hro]; rfl
      obtain ⟨s', hs'⟩ : ∃ s', upS s = s' := ⟨_, rfl⟩
      obtain ⟨t', ht'⟩ : ∃ t', upS ⟨2, n, 1 + m, 0, 0, 0, 0⟩ = t' := ⟨_, rfl⟩
      have hoks : OkS 2 n (1 + m) s' := by rw [← hs']; exact step_ok (k := 2) (n := n) (m := 1 + m) (s := s) 4 [] [] (.inr rfl) (by omega) (by omega) hok
      have hokt : OkS 2 n (1 + m) t' := by rw [← ht']; exact step_ok (k := 2) (n := n) (m := 1 + m) (s := ⟨2, n, 1 + m, 0, 0, 0, 0⟩) 4 [] [] (.inr rfl) (by omega) (by omega) (by simp [OkS]; omega)
      have hal : Alike s' t' := by
        rw [← hs', ← ht', hup.1]
        simp [upS, Alike]
      have hst : s'.state = 2 := by rw [← hs', hup.1]
      have htt : t'.state = 2 := by rw [← hal.1]; exact hst
      have HS := Lib.hid hs'
      have HT := Lib.hid ht'
      have HU := Lib.hid hup.2
      have HSS := Lib.hid hst
      have HTT := Lib.hid htt
      have hro := Lib.hid hok.1
      clear hs' ht' hup hst htt
      go_wp2_with (first
        | (go_at_call_of 20 (Value.pointer (some (Addr.mk b 0 none))); refine (up_ses s' { data := #[48, 48, 49] } { data := #[] } false hs (by rw [hro.out]; exact (.inr rfl)) HS.out HU.out).mono ?_; rintro e w3 ⟨rfl, hs3, hg3⟩; have ht3 := ht.other (by omega) hBb hg3; have hl3 := hs3.lt; have hm3 := ht3.lt)
        | (go_at_call_of 20 (Value.pointer (some (Addr.mk g 0 none))); refine (up_ses t' { data := #[48, 48, 49] } { data := #[] } false (ht3.alloc _) (.inr rfl) HT.out (by rfl)).mono ?_; rintro e w4 ⟨rfl, ht4, hg4⟩; have hs4 := (hs3.alloc _).other (by omega) hBg hg4; have hX := (Blk.new w3 27 #[.string { data := #[48, 48, 49] }, .string { data := #[] }, .bool false]).grown hg4 (by intro e; injection e; omega); have hl4 := hX.lt; have d0 := hX.cell 0; have d1 := hX.cell 1; have d2 := hX.cell 2; simp at d0 d1 d2)
        | (go_at_call_of 13 (Value.pointer (some (Addr.mk b 0 none))); refine (state_ses 2 (hs4.alloc _) HSS.out).mono ?_; rintro e w' ⟨rfl, rfl⟩)
        | (go_at_call_of 13 (Value.pointer (some (Addr.mk g 0 none))); refine (state_ses 2 (ht4.alloc _) HTT.out).mono ?_; rintro e w' ⟨rfl, rfl⟩))
      have hY := Blk.new w4 27 #[.string { data := #[48, 48, 49] }, .string { data := #[] }, .bool false]
      have hX5 := hX.alloc (.cells #[.string { data := #[48, 48, 49] }, .string { data := #[] }, .bool false] 27)
      have hs5 := hs4.alloc (.cells #[.string { data := #[48, 48, 49] }, .string { data := #[] }, .bool false] 27)
      have ht5 := ht4.alloc (.cells #[.string { data := #[48, 48, 49] }, .string { data := #[] }, .bool false] 27)
      obtain ⟨gx, hgx⟩ : ∃ gx, gx = w3.heap.size := ⟨_, rfl⟩
      obtain ⟨gy, hgy⟩ : ∃ gy, gy = w4.heap.size := ⟨_, rfl⟩
      obtain ⟨w5, hw5⟩ : ∃ w5, w5 = w4.alloc (.cells #[.string { data := #[48, 48, 49] }, .string { data := #[] }, .bool false] 27) := ⟨_, rfl⟩
      rw [← hw5, ← hgx] at hX5
      rw [← hw5] at hs5 ht5
      rw [← hw5, ← hgy] at hY
      rw [← hw5, ← hgx, ← hgy]
      have hxy : gx < gy := by omega
      have hbx : b < gx := by omega
      have hgx' : g < gx := by omega
      have hBx : w.heap.size ≤ gx := by omega
      have hBy : w.heap.size ≤ gy := by omega
      clear hw5 hgx hgy hX d0 d1 d2 hg3 hg4 hs3 ht3 hs4 ht4 hs ht hl3 hm3 hl4 HS HT HU HSS HTT hro hok
      go_loopw [21] (fun i wr => ∃ (k : Nat) (s t : S) (x0 x1 z0 z1 : ByteArray) (x2 z2 : Bool), k ≤ lc ∧ i = .int .i64 k ∧ OkS 2 n (1 + m) s ∧ OkS 2 n (1 + m) t ∧ Alike s t ∧ Ses w.heap.size w b s wr ∧ Ses w.heap.size w g t wr ∧ Blk wr gx 27 #[.string x0, .string x1, .bool x2] ∧ Blk wr gy 27 #[.string z0, .string z1, .bool z2]) (fun i _ => lc - (intOf i).toNat)
      case atStart => exact ⟨0, s', t', _, _, _, _, _, _, by omega, rfl, hoks, hokt, hal, hs5, ht5, hX5, hY⟩
      case round =>
        obtain ⟨j, s, t, x0, x1, z0, z1, x2, z2, hj0, rfl, hos, hot, hal, hs, ht, hX, hY⟩ := hrel
        clear hs5 ht5 hX5 hoks hokt
        by_cases hin2 : j < lc
        · obtain ⟨bc, oc, v, co, an, rfl, hbc, hv0, hv1, hv2, hv3, hv4⟩ := hC j hin2
          have y0 : wr.cell? ⟨bc, oc + j * 3, none⟩ = some (.int .i64 v) := (hs.2.2.1.cell (p := ⟨bc, oc + j * 3, none⟩) hbc).trans hv0
          have y1 : wr.cell? ⟨bc, oc + j * 3 + 1, none⟩ = some (.string co) := (hs.2.2.1.cell (p := ⟨bc, oc + j * 3 + 1, none⟩) hbc).trans hv1
          have y2 : wr.cell? ⟨bc, oc + j * 3 + 2, none⟩ = some (.string an) := (hs.2.2.1.cell (p := ⟨bc, oc + j * 3 + 2, none⟩) hbc).trans hv2
          obtain ⟨hal2, hsame⟩ := step_alike (pickP v 6) co an.toList hos hot hal
          have hos2 := step_ok (pickP v 6) co.toList an.toList (.inr rfl) (by omega) (by omega) hos
          have hot2 := step_ok (pickP v 6) co.toList an.toList (.inr rfl) (by omega) (by omega) hot
          have hg1 := hos.good (.inr rfl) (by omega) (by omega) (by omega)
          have hg2 := hot.good (.inr rfl) (by omega) (by omega) (by omega)
          obtain ⟨yc, ya, yl, hy⟩ : ∃ yc ya yl, stepY s (pickP v 6) co = ⟨yc, ya, yl⟩ := ⟨_, _, _, rfl⟩
          obtain ⟨s2, hs2⟩ : ∃ s2, stepS s (pickP v 6) co.toList an.toList = s2 := ⟨_, rfl⟩
          obtain ⟨t2, ht2⟩ : ∃ t2, stepS t (pickP v 6) co.toList an.toList = t2 := ⟨_, rfl⟩
          rw [hy] at hsame
          rw [hs2] at hal2 hos2
          rw [ht2] at hal2 hot2
          obtain ⟨sg, hsg⟩ : ∃ sg, s2.state = sg := ⟨_, rfl⟩
          have htg : t2.state = sg := by rw [← hal2.1]; exact hsg
          have HY1 := Lib.hid hy
          have HY2 := Lib.hid hsame.symm
          have HS2 := Lib.hid hs2
          have HT2 := Lib.hid ht2
          have HSG := Lib.hid hsg
          have HTG := Lib.hid htg
          clear hy hsame hs2 ht2 hsg htg
          go_wp2_with (first
            | (go_at_call_of 27 (Value.pointer (some (Addr.mk b 0 none))); refine (told_any v _ co an hs hg1 hv3 hv4 rfl).mono ?_; rintro e w6 htold; have ht6 := (ht.told (by omega) hBb htold).far3 (g := gx) (by omega) hBx (.string yc) (.string ya) (.bool yl); obtain ⟨rfl, hs6, hg6⟩ := htold; rw [HS2.out] at hs6; rw [HY1.out]; simp only [Y.val]; have hX6 := hX.grown hg6 (by intro e; injection e; omega); have hY6 := (hY.grown hg6 (by intro e; injection e; omega)).far3 (g := gx) (by omega) (.string yc) (.string ya) (.bool yl); have hX7 := hX6.store3 (.string yc) (.string ya) (.bool yl); have hs7 := hs6.far3 (g := gx) (by omega) hBx (.string yc) (.string ya) (.bool yl); have d0 := hX6.cell 0; have d1 := hX6.cell 1; have d2 := hX6.cell 2; have f0 := hX6.frozen 0; have f1 := hX6.frozen 1; have f2 := hX6.frozen 2; simp at d0 d1 d2; have yy0 : w6.cell? ⟨bc, oc + j * 3, none⟩ = some (.int .i64 v) := (hs6.2.2.1.cell (p := ⟨bc, oc + j * 3, none⟩) hbc).trans hv0; have yy1 : w6.cell? ⟨bc, oc + j * 3 + 1, none⟩ = some (.string co) := (hs6.2.2.1.cell (p := ⟨bc, oc + j * 3 + 1, none⟩) hbc).trans hv1; have yy2 : w6.cell? ⟨bc, oc + j * 3 + 2, none⟩ = some (.string an) := (hs6.2.2.1.cell (p := ⟨bc, oc + j * 3 + 2, none⟩) hbc).trans hv2; have hne : gx ≠ bc := (by omega); have hne' : bc ≠ gx := (by omega))
            | (go_at_call_of 27 (Value.pointer (some (Addr.mk g 0 none))); refine (told_any v _ co an ht6 hg2 hv3 hv4 rfl).mono ?_; rintro e w8 htold; have hs8 := (hs7.told (by omega) hBg htold).far3 (g := gy) (by omega) hBy (.string yc) (.string ya) (.bool yl); obtain ⟨rfl, ht8, hg8⟩ := htold; rw [HT2.out] at ht8; rw [HY2.out]; simp only [Y.val]; have hY8 := hY6.grown hg8 (by intro e; injection e; omega); have hX8 := (hX7.grown hg8 (by intro e; injection e; omega)); have ht9 := ht8.far3 (g := gy) (by omega) hBy (.string yc) (.string ya) (.bool yl); have q0 := hY8.cell 0; have q1 := hY8.cell 1; have q2 := hY8.cell 2; have p0 := hY8.frozen 0; have p1 := hY8.frozen 1; have p2 := hY8.frozen 2; have r0 := hX8.cell 0; have r1 := hX8.cell 1; have r2 := hX8.cell 2; simp at q0 q1 q2 r0 r1 r2; have hne2 : gx ≠ gy := (by omega); have hne3 : gy ≠ gx := (by omega))
            | (go_at_call_of 13 (Value.pointer (some (Addr.mk b 0 none))); refine (state_ses sg hs8 HSG.out).mono ?_; rintro e w' ⟨rfl, rfl⟩)
            | (go_at_call_of 13 (Value.pointer (some (Addr.mk g 0 none))); refine (state_ses sg ht9 HTG.out).mono ?_; rintro e w' ⟨rfl, rfl⟩)
            | (go_at_call_of 18 (Value.pointer (some (Addr.mk b 0 none))); refine (ready_ses _ hs8 (by rw [HSG.out])).mono ?_; rintro e w' ⟨rfl, rfl⟩)
            | (go_at_call_of 18 (Value.pointer (some (Addr.mk g 0 none))); refine (ready_ses _ ht9 (by rw [HTG.out])).mono ?_; rintro e w' ⟨rfl, rfl⟩))
          go_roundw
          case rel => exact ⟨j + 1, s2, t2, _, _, _, _, _, _, by omega, by go_num, hos2, hot2, hal2, hs8, ht9, hX8.far3 (by omega) _ _ _, hY8.store3 _ _ _⟩
          case measure => simp [intOf]; omega
        · go_wp2
          go_ret
          exact ⟨rfl, hs.2.2.1⟩

theorem anew_walk (r : Int) (r1 : -9223372036854775808 ≤ r) (r2 : r ≤ 9223372036854775807) (c : Int) (l1 : -9223372036854775808 ≤ c) (l2 : c ≤ 9223372036854775807) (d : Int) (l3 : -9223372036854775808 ≤ d) (l4 : d ≤ 9223372036854775807)
    (A : Option Addr) (la ca : Nat) (w : World) (hA : Things w w.heap.size A la ∧ la ≤ 9223372036854775807) (C : Option Addr) (lc cc : Nat) (hC : Things w w.heap.size C lc ∧ lc ≤ 9223372036854775807) :
    Calls Try.prog 8 #[.int .i64 r, .int .i64 c, .int .i64 d, .slice A la ca, .slice C lc cc] w fun e w' => e = .returned (.bool true) ∧ Below w.heap.size w w' := by
  have h0 := pickP_lo r 2 (by omega)
  have h1 := pickP_hi r 2 (by omega)
  by_cases h : pickP r 2 = 0
  · exact anew_1 r c d _ _ A C la ca lc cc w r1 r2 l1 l2 l3 l4 h rfl rfl (pickP_lo _ _ (by omega)) (pickP_hi _ _ (by omega)) (pickP_lo _ _ (by omega)) (pickP_hi _ _ (by omega)) hA.1 hA.2 hC.1 hC.2
  · exact anew_2 r c d _ _ A C la ca lc cc w r1 r2 l1 l2 l3 l4 (by omega) rfl rfl (pickP_lo _ _ (by omega)) (pickP_hi _ _ (by omega)) (pickP_lo _ _ (by omega)) (pickP_hi _ _ (by omega)) hA.1 hA.2 hC.1 hC.2
end Go.Proofs.Ytcdikjomiomnpaa
