/-
  SessionAcquirer: the walk.
-/
import Derived.Test.YtcdikjomiomnpaaTold
namespace Go.Proofs.Ytcdikjomiomnpaa
open Go.RowKit
set_option linter.unusedVariables false
set_option linter.unusedSimpArgs false

/-- A slice of things that came in: each element's three cells, its block below B. -/
def Things (w : World) (B : Nat) (A : Option Addr) (n : Nat) : Prop :=
  ∀ k, k < n → ∃ (b off : Nat) (v : Int) (c a : ByteArray), A = some ⟨b, off, none⟩ ∧ b < B ∧ w.cell? ⟨b, off + k * 3, none⟩ = some (.int .i64 v) ∧ w.cell? ⟨b, off + k * 3 + 1, none⟩ = some (.string c) ∧ w.cell? ⟨b, off + k * 3 + 2, none⟩ = some (.string a) ∧
    -9223372036854775808 ≤ v ∧ v ≤ 9223372036854775807
theorem Things.below {w w' : World} {B : Nat} {A : Option Addr} {n : Nat} (h : Things w B A n) (hb : Below B w w') : Things w' B A n := by
  intro k hk
  obtain ⟨b, off, v, c, a, e, hlt, h0, h1, h2, h3, h4⟩ := h k hk
  exact ⟨b, off, v, c, a, e, hlt, (hb.cell (p := ⟨b, off + k * 3, none⟩) hlt).trans h0, (hb.cell (p := ⟨b, off + k * 3 + 1, none⟩) hlt).trans h1, (hb.cell (p := ⟨b, off + k * 3 + 2, none⟩) hlt).trans h2, h3, h4⟩

set_option maxRecDepth 100000 in
set_option maxHeartbeats 6400000 in
theorem acquirer_some (c d : Int) (n m : Int) (A : Option Addr) (la ca : Nat) (w : World) (l1 : -9223372036854775808 ≤ c) (l2 : c ≤ 9223372036854775807) (l3 : -9223372036854775808 ≤ d) (l4 : d ≤ 9223372036854775807)
    (hn : pickP c 100001 = n) (hm : pickP d 100000 = m) (hn0 : 0 ≤ n) (hn1 : n ≤ 100000) (hm0 : 0 ≤ m) (hm1 : m < 100000) (hA : Things w w.heap.size A la) (hla : la ≤ 9223372036854775807) :
    Calls Try.prog 7 #[.int .i64 c, .int .i64 d, .slice A la ca] w fun e w' => e = .returned (.bool true) ∧ Below w.heap.size w w' := by
  have HM := Lib.hid hm
  have HN := Lib.hid hn
  clear hm hn
  go_enter Try.func7, Try.ntmps7
  go_wp2_with (first
    | (go_at_call_of 9 (Value.int IntKind.i64 c); refine (pick_is c 100001 n _ l1 l2 (by omega) (by omega) HN.out).mono ?_; rintro e w' ⟨rfl, rfl⟩)
    | (go_at_call_of 9 (Value.int IntKind.i64 d); refine (pick_is d 100000 m _ l3 l4 (by omega) (by omega) HM.out).mono ?_; rintro e w' ⟨rfl, rfl⟩)
    | (go_at_call 19; refine (new_ses (B := w.heap.size) (w0 := w) 1 n (1 + m) _ (Nat.le_refl _) (Below.refl _ _) (.inl rfl) (by omega) (by omega) (by omega) (by omega)).mono ?_; rintro e w1 ⟨b, hbe, rfl, hs1, hb1⟩; have HB := Lib.hid hbe; clear hbe)
    | (go_at_call 13; refine (state_ses 0 hs1 rfl).mono ?_; rintro e w' ⟨rfl, rfl⟩))
  clear hb1 HB
  go_loopw [11, 9, 10] (fun i t o wr => ∃ (k : Nat) (th on : Bool) (st : Int), k ≤ la ∧ i = .int .i64 k ∧ t = .bool th ∧ o = .bool on ∧ (th = false ∧ on = false ∧ st = 0 ∨ th = true ∧ on = false ∧ st = 1 ∨ th = true ∧ on = true ∧ st = 3) ∧ Ses w.heap.size w b ⟨1, n, 1 + m, st, 0, 0, 0⟩ wr) (fun i _ _ _ => la - (intOf i).toNat)
  case atStart => exact ⟨0, false, false, 0, by omega, rfl, rfl, rfl, .inl ⟨rfl, rfl, rfl⟩, hs1⟩
  case round =>
    obtain ⟨k, th, on, st, hk0, rfl, rfl, rfl, hcase, hs⟩ := hrel
    clear hs1
    by_cases hin : k < la
    · obtain ⟨ba, oa, v, co, an, rfl, hba, hv0, hv1, hv2, hv3, hv4⟩ := hA k hin
      have y0 : wr.cell? ⟨ba, oa + k * 3, none⟩ = some (.int .i64 v) := (hs.2.2.1.cell (p := ⟨ba, oa + k * 3, none⟩) hba).trans hv0
      have y1 : wr.cell? ⟨ba, oa + k * 3 + 1, none⟩ = some (.string co) := (hs.2.2.1.cell (p := ⟨ba, oa + k * 3 + 1, none⟩) hba).trans hv1
      have y2 : wr.cell? ⟨ba, oa + k * 3 + 2, none⟩ = some (.string an) := (hs.2.2.1.cell (p := ⟨ba, oa + k * 3 + 2, none⟩) hba).trans hv2
      clear hv0 hv1 hv2
      obtain ⟨q, hq⟩ : ∃ q, pickP v 6 = q := ⟨_, rfl⟩
      have hq0 : 0 ≤ q := by rw [← hq]; exact pickP_lo _ _ (by omega)
      have hq1 : q < 6 := by rw [← hq]; exact pickP_hi _ _ (by omega)
      have hq6 : q = 0 ∨ q = 1 ∨ q = 2 ∨ q = 3 ∨ q = 4 ∨ q = 5 := by omega
      clear hq0 hq1
      have hlt := hs.lt
      rcases hcase with ⟨rfl, rfl, rfl⟩ | ⟨rfl, rfl, rfl⟩ | ⟨rfl, rfl, rfl⟩
      · rcases hq6 with rfl | rfl | rfl | rfl | rfl | rfl
        · have HQ := Lib.hid hq
          clear hq
          have HG : Hid (Good ⟨1, n, 1 + m, 0, 0, 0, 0⟩) := by simp [Hid, Good]; omega
          have HT : Hid (stepS ⟨1, n, 1 + m, 0, 0, 0, 0⟩ 0 co.toList an.toList = ⟨1, n, 1 + m, 0, 0, 0, 0⟩) := by simp [Hid, stepS, heardS, answeredS, tickS, upS, downS]
          have HY : Hid (stepY ⟨1, n, 1 + m, 0, 0, 0, 0⟩ 0 co = ⟨{ data := #[] }, { data := #[] }, false⟩) := by simp [Hid, stepY, tickY, upY, quietY, cNone]
          go_wp2_with (first
            | (go_at_call 27; refine (told_any v _ co an (hs.alloc _) HG.out hv3 hv4 HQ.out).mono ?_; rintro e w2 ⟨rfl, hs2, hg2⟩; rw [HT.out] at hs2; have hT := (Blk.new wr 57 #[.int .i64 v, .string co, .string an]).grown hg2 (by intro e; injection e; omega); have hz2 := hT.lt; have a0 := hT.cell 0; have a1 := hT.cell 1; have a2 := hT.cell 2; simp at a0 a1 a2; rw [HY.out]; simp only [Y.val])
            | (go_at_call 9; refine (pick_is v 6 _ _ hv3 hv4 (by omega) (by omega) HQ.out).mono ?_; rintro e w' ⟨rfl, rfl⟩)
            | (go_at_call 12; refine (nothing_is _ _ _ true _ nothing_quiet).mono ?_; rintro e w3 ⟨rfl, hb3⟩; have hs3 := (hs2.alloc _).call hb3; have hT3 := (hT.alloc _).below hb3 (by simp; omega); have c0 := hT3.cell 0; have c1 := hT3.cell 1; have c2 := hT3.cell 2; simp at c0 c1 c2; clear a0 a1 a2)
            | (go_at_call 13; refine (state_ses 0 hs3 rfl).mono ?_; rintro e w' ⟨rfl, rfl⟩)
            | (go_at_call 18; refine (ready_ses false hs3 rfl).mono ?_; rintro e w' ⟨rfl, rfl⟩))
          go_roundw
          case rel => exact ⟨k + 1, false, false, 0, by omega, by go_num, rfl, rfl, .inl ⟨rfl, rfl, rfl⟩, hs3⟩
          case measure => simp [intOf]; omega
        · have HQ := Lib.hid hq
          clear hq
          have HG : Hid (Good ⟨1, n, 1 + m, 0, 0, 0, 0⟩) := by simp [Hid, Good]; omega
          have HT : Hid (stepS ⟨1, n, 1 + m, 0, 0, 0, 0⟩ 1 co.toList an.toList = ⟨1, n, 1 + m, 0, 0, 0, 0⟩) := by simp [Hid, stepS, askedS]
          have HY : Hid (stepY ⟨1, n, 1 + m, 0, 0, 0, 0⟩ 1 co = ⟨{ data := #[] }, { data := #[] }, false⟩) := by simp [Hid, stepY, askedY, quietY, cNone]
          go_wp2_with (first
            | (go_at_call 27; refine (told_any v _ co an (hs.alloc _) HG.out hv3 hv4 HQ.out).mono ?_; rintro e w2 ⟨rfl, hs2, hg2⟩; rw [HT.out] at hs2; have hT := (Blk.new wr 57 #[.int .i64 v, .string co, .string an]).grown hg2 (by intro e; injection e; omega); have hz2 := hT.lt; have a0 := hT.cell 0; have a1 := hT.cell 1; have a2 := hT.cell 2; simp at a0 a1 a2; rw [HY.out]; simp only [Y.val])
            | (go_at_call 9; refine (pick_is v 6 _ _ hv3 hv4 (by omega) (by omega) HQ.out).mono ?_; rintro e w' ⟨rfl, rfl⟩)
            | (go_at_call 12; refine (nothing_is _ _ _ true _ nothing_quiet).mono ?_; rintro e w3 ⟨rfl, hb3⟩; have hs3 := (hs2.alloc _).call hb3; have hT3 := (hT.alloc _).below hb3 (by simp; omega); have c0 := hT3.cell 0; have c1 := hT3.cell 1; have c2 := hT3.cell 2; simp at c0 c1 c2; clear a0 a1 a2))
          go_roundw
          case rel => exact ⟨k + 1, false, false, 0, by omega, by go_num, rfl, rfl, .inl ⟨rfl, rfl, rfl⟩, hs3⟩
          case measure => simp [intOf]; omega
        · have HQ := Lib.hid hq
          clear hq
          have HG : Hid (Good ⟨1, n, 1 + m, 0, 0, 0, 0⟩) := by simp [Hid, Good]; omega
          have HT : Hid (stepS ⟨1, n, 1 + m, 0, 0, 0, 0⟩ 2 co.toList an.toList = ⟨1, n, 1 + m, 0, 0, 0, 0⟩) := by simp [Hid, stepS, heardS, answeredS, tickS, upS, downS]
          have HY : Hid (stepY ⟨1, n, 1 + m, 0, 0, 0, 0⟩ 2 co = ⟨{ data := #[] }, { data := #[] }, false⟩) := by simp [Hid, stepY, tickY, upY, quietY, cNone]
          go_wp2_with (first
            | (go_at_call 27; refine (told_any v _ co an (hs.alloc _) HG.out hv3 hv4 HQ.out).mono ?_; rintro e w2 ⟨rfl, hs2, hg2⟩; rw [HT.out] at hs2; have hT := (Blk.new wr 57 #[.int .i64 v, .string co, .string an]).grown hg2 (by intro e; injection e; omega); have hz2 := hT.lt; have a0 := hT.cell 0; have a1 := hT.cell 1; have a2 := hT.cell 2; simp at a0 a1 a2; rw [HY.out]; simp only [Y.val])
            | (go_at_call 9; refine (pick_is v 6 _ _ hv3 hv4 (by omega) (by omega) HQ.out).mono ?_; rintro e w' ⟨rfl, rfl⟩)
            | (go_at_call 12; refine (nothing_is _ _ _ true _ nothing_quiet).mono ?_; rintro e w3 ⟨rfl, hb3⟩; have hs3 := (hs2.alloc _).call hb3; have hT3 := (hT.alloc _).below hb3 (by simp; omega); have c0 := hT3.cell 0; have c1 := hT3.cell 1; have c2 := hT3.cell 2; simp at c0 c1 c2; clear a0 a1 a2)
            | (go_at_call 13; refine (state_ses 0 hs3 rfl).mono ?_; rintro e w' ⟨rfl, rfl⟩)
            | (go_at_call 18; refine (ready_ses false hs3 rfl).mono ?_; rintro e w' ⟨rfl, rfl⟩))
          go_roundw
          case rel => exact ⟨k + 1, false, false, 0, by omega, by go_num, rfl, rfl, .inl ⟨rfl, rfl, rfl⟩, hs3⟩
          case measure => simp [intOf]; omega
        · have HQ := Lib.hid hq
          clear hq
          have HG : Hid (Good ⟨1, n, 1 + m, 0, 0, 0, 0⟩) := by simp [Hid, Good]; omega
          have HT : Hid (stepS ⟨1, n, 1 + m, 0, 0, 0, 0⟩ 3 co.toList an.toList = ⟨1, n, 1 + m, 0, 0, 0, 0⟩) := by simp [Hid, stepS, heardS, answeredS, tickS, upS, downS]
          have HY : Hid (stepY ⟨1, n, 1 + m, 0, 0, 0, 0⟩ 3 co = ⟨{ data := #[] }, { data := #[] }, false⟩) := by simp [Hid, stepY, tickY, upY, quietY, cNone]
          go_wp2_with (first
            | (go_at_call 27; refine (told_any v _ co an (hs.alloc _) HG.out hv3 hv4 HQ.out).mono ?_; rintro e w2 ⟨rfl, hs2, hg2⟩; rw [HT.out] at hs2; have hT := (Blk.new wr 57 #[.int .i64 v, .string co, .string an]).grown hg2 (by intro e; injection e; omega); have hz2 := hT.lt; have a0 := hT.cell 0; have a1 := hT.cell 1; have a2 := hT.cell 2; simp at a0 a1 a2; rw [HY.out]; simp only [Y.val])
            | (go_at_call 9; refine (pick_is v 6 _ _ hv3 hv4 (by omega) (by omega) HQ.out).mono ?_; rintro e w' ⟨rfl, rfl⟩)
            | (go_at_call 12; refine (nothing_is _ _ _ true _ nothing_quiet).mono ?_; rintro e w3 ⟨rfl, hb3⟩; have hs3 := (hs2.alloc _).call hb3; have hT3 := (hT.alloc _).below hb3 (by simp; omega); have c0 := hT3.cell 0; have c1 := hT3.cell 1; have c2 := hT3.cell 2; simp at c0 c1 c2; clear a0 a1 a2)
            | (go_at_call 13; refine (state_ses 0 hs3 rfl).mono ?_; rintro e w' ⟨rfl, rfl⟩)
            | (go_at_call 18; refine (ready_ses false hs3 rfl).mono ?_; rintro e w' ⟨rfl, rfl⟩))
          go_roundw
          case rel => exact ⟨k + 1, false, false, 0, by omega, by go_num, rfl, rfl, .inl ⟨rfl, rfl, rfl⟩, hs3⟩
          case measure => simp [intOf]; omega
        · have HQ := Lib.hid hq
          clear hq
          have HG : Hid (Good ⟨1, n, 1 + m, 0, 0, 0, 0⟩) := by simp [Hid, Good]; omega
          have HT : Hid (stepS ⟨1, n, 1 + m, 0, 0, 0, 0⟩ 4 co.toList an.toList = ⟨1, n, 1 + m, 1, 0, 0, 0⟩) := by simp [Hid, stepS, heardS, answeredS, tickS, upS, downS]
          have HY : Hid (stepY ⟨1, n, 1 + m, 0, 0, 0, 0⟩ 4 co = ⟨{ data := #[] }, { data := #[] }, false⟩) := by simp [Hid, stepY, tickY, upY, quietY, cNone]
          go_wp2_with (first
            | (go_at_call 27; refine (told_any v _ co an (hs.alloc _) HG.out hv3 hv4 HQ.out).mono ?_; rintro e w2 ⟨rfl, hs2, hg2⟩; rw [HT.out] at hs2; have hT := (Blk.new wr 57 #[.int .i64 v, .string co, .string an]).grown hg2 (by intro e; injection e; omega); have hz2 := hT.lt; have a0 := hT.cell 0; have a1 := hT.cell 1; have a2 := hT.cell 2; simp at a0 a1 a2; rw [HY.out]; simp only [Y.val])
            | (go_at_call 9; refine (pick_is v 6 _ _ hv3 hv4 (by omega) (by omega) HQ.out).mono ?_; rintro e w' ⟨rfl, rfl⟩)
            | (go_at_call 12; refine (nothing_is _ _ _ true _ nothing_quiet).mono ?_; rintro e w3 ⟨rfl, hb3⟩; have hs3 := (hs2.alloc _).call hb3; have hT3 := (hT.alloc _).below hb3 (by simp; omega); have c0 := hT3.cell 0; have c1 := hT3.cell 1; have c2 := hT3.cell 2; simp at c0 c1 c2; clear a0 a1 a2)
            | (go_at_call 13; refine (state_ses 1 hs3 rfl).mono ?_; rintro e w' ⟨rfl, rfl⟩)
            | (go_at_call 18; refine (ready_ses false hs3 rfl).mono ?_; rintro e w' ⟨rfl, rfl⟩))
          go_roundw
          case rel => exact ⟨k + 1, true, false, 1, by omega, by go_num, rfl, rfl, .inr (.inl ⟨rfl, rfl, rfl⟩), hs3⟩
          case measure => simp [intOf]; omega
        · have HQ := Lib.hid hq
          clear hq
          have HG : Hid (Good ⟨1, n, 1 + m, 0, 0, 0, 0⟩) := by simp [Hid, Good]; omega
          have HT : Hid (stepS ⟨1, n, 1 + m, 0, 0, 0, 0⟩ 5 co.toList an.toList = ⟨1, n, 1 + m, 0, 0, 0, 0⟩) := by simp [Hid, stepS, heardS, answeredS, tickS, upS, downS]
          have HY : Hid (stepY ⟨1, n, 1 + m, 0, 0, 0, 0⟩ 5 co = ⟨{ data := #[] }, { data := #[] }, false⟩) := by simp [Hid, stepY, tickY, upY, quietY, cNone]
          go_wp2_with (first
            | (go_at_call 27; refine (told_any v _ co an (hs.alloc _) HG.out hv3 hv4 HQ.out).mono ?_; rintro e w2 ⟨rfl, hs2, hg2⟩; rw [HT.out] at hs2; have hT := (Blk.new wr 57 #[.int .i64 v, .string co, .string an]).grown hg2 (by intro e; injection e; omega); have hz2 := hT.lt; have a0 := hT.cell 0; have a1 := hT.cell 1; have a2 := hT.cell 2; simp at a0 a1 a2; rw [HY.out]; simp only [Y.val])
            | (go_at_call 9; refine (pick_is v 6 _ _ hv3 hv4 (by omega) (by omega) HQ.out).mono ?_; rintro e w' ⟨rfl, rfl⟩)
            | (go_at_call 12; refine (nothing_is _ _ _ true _ nothing_quiet).mono ?_; rintro e w3 ⟨rfl, hb3⟩; have hs3 := (hs2.alloc _).call hb3; have hT3 := (hT.alloc _).below hb3 (by simp; omega); have c0 := hT3.cell 0; have c1 := hT3.cell 1; have c2 := hT3.cell 2; simp at c0 c1 c2; clear a0 a1 a2)
            | (go_at_call 13; refine (state_ses 0 hs3 rfl).mono ?_; rintro e w' ⟨rfl, rfl⟩)
            | (go_at_call 18; refine (ready_ses false hs3 rfl).mono ?_; rintro e w' ⟨rfl, rfl⟩))
          go_roundw
          case rel => exact ⟨k + 1, false, false, 0, by omega, by go_num, rfl, rfl, .inl ⟨rfl, rfl, rfl⟩, hs3⟩
          case measure => simp [intOf]; omega
      · rcases hq6 with rfl | rfl | rfl | rfl | rfl | rfl
        · have HQ := Lib.hid hq
          clear hq
          have HG : Hid (Good ⟨1, n, 1 + m, 1, 0, 0, 0⟩) := by simp [Hid, Good]; omega
          have HT : Hid (stepS ⟨1, n, 1 + m, 1, 0, 0, 0⟩ 0 co.toList an.toList = ⟨1, n, 1 + m, 1, 0, 0, 0⟩) := by simp [Hid, stepS, heardS, answeredS, tickS, upS, downS]
          have HY : Hid (stepY ⟨1, n, 1 + m, 1, 0, 0, 0⟩ 0 co = ⟨{ data := #[] }, { data := #[] }, false⟩) := by simp [Hid, stepY, tickY, upY, quietY, cNone]
          go_wp2_with (first
            | (go_at_call 27; refine (told_any v _ co an (hs.alloc _) HG.out hv3 hv4 HQ.out).mono ?_; rintro e w2 ⟨rfl, hs2, hg2⟩; rw [HT.out] at hs2; have hT := (Blk.new wr 57 #[.int .i64 v, .string co, .string an]).grown hg2 (by intro e; injection e; omega); have hz2 := hT.lt; have a0 := hT.cell 0; have a1 := hT.cell 1; have a2 := hT.cell 2; simp at a0 a1 a2; rw [HY.out]; simp only [Y.val])
            | (go_at_call 9; refine (pick_is v 6 _ _ hv3 hv4 (by omega) (by omega) HQ.out).mono ?_; rintro e w' ⟨rfl, rfl⟩)
            | (go_at_call 12; refine (nothing_is _ _ _ true _ nothing_quiet).mono ?_; rintro e w3 ⟨rfl, hb3⟩; have hs3 := (hs2.alloc _).call hb3; have hT3 := (hT.alloc _).below hb3 (by simp; omega); have c0 := hT3.cell 0; have c1 := hT3.cell 1; have c2 := hT3.cell 2; simp at c0 c1 c2; clear a0 a1 a2)
            | (go_at_call 13; refine (state_ses 1 hs3 rfl).mono ?_; rintro e w' ⟨rfl, rfl⟩)
            | (go_at_call 18; refine (ready_ses false hs3 rfl).mono ?_; rintro e w' ⟨rfl, rfl⟩))
          go_roundw
          case rel => exact ⟨k + 1, true, false, 1, by omega, by go_num, rfl, rfl, .inr (.inl ⟨rfl, rfl, rfl⟩), hs3⟩
          case measure => simp [intOf]; omega
        · have HQ := Lib.hid hq
          clear hq
          by_cases u0 : co.toList = [48, 48, 49]
          · have HG : Hid (Good ⟨1, n, 1 + m, 1, 0, 0, 0⟩) := by simp [Hid, Good]; omega
            have HT : Hid (stepS ⟨1, n, 1 + m, 1, 0, 0, 0⟩ 1 co.toList an.toList = ⟨1, n, 1 + m, 3, 0, 0, 0⟩) := by simp [Hid, stepS, askedS, heardS, u0]
            have HY : Hid (stepY ⟨1, n, 1 + m, 1, 0, 0, 0⟩ 1 co = ⟨co, { data := #[48, 48] }, false⟩) := by simp [Hid, stepY, askedY, askedA, c00, c12, u0]
            have x0 : (co.toList == [48, 48, 49]) = true := by simp [u0]
            clear u0
            go_wp2_with (first
              | (go_at_call 27; refine (told_any v _ co an (hs.alloc _) HG.out hv3 hv4 HQ.out).mono ?_; rintro e w2 ⟨rfl, hs2, hg2⟩; rw [HT.out] at hs2; have hT := (Blk.new wr 57 #[.int .i64 v, .string co, .string an]).grown hg2 (by intro e; injection e; omega); have hz2 := hT.lt; have a0 := hT.cell 0; have a1 := hT.cell 1; have a2 := hT.cell 2; simp at a0 a1 a2; rw [HY.out]; simp only [Y.val])
              | (go_at_call 9; refine (pick_is v 6 _ _ hv3 hv4 (by omega) (by omega) HQ.out).mono ?_; rintro e w' ⟨rfl, rfl⟩)
              | (go_at_call 28; refine (answers_is _ _ _ _ _ true _ (by simp [answersB, ByteArray.toList_eq])).mono ?_; rintro e w3 ⟨rfl, hb3⟩; have hs3 := (hs2.alloc _).call hb3)
              | (go_at_call 13; refine (state_ses 3 hs3 rfl).mono ?_; rintro e w' ⟨rfl, rfl⟩)
              | (go_at_call 18; refine (ready_ses true hs3 rfl).mono ?_; rintro e w' ⟨rfl, rfl⟩))
            go_roundw
            case rel => exact ⟨k + 1, true, true, 3, by omega, by go_num, rfl, rfl, .inr (.inr ⟨rfl, rfl, rfl⟩), hs3⟩
            case measure => simp [intOf]; omega
          by_cases u1 : co.toList = [48, 48, 50]
          · have HG : Hid (Good ⟨1, n, 1 + m, 1, 0, 0, 0⟩) := by simp [Hid, Good]; omega
            have HT : Hid (stepS ⟨1, n, 1 + m, 1, 0, 0, 0⟩ 1 co.toList an.toList = ⟨1, n, 1 + m, 1, 0, 0, 0⟩) := by simp [Hid, stepS, askedS, heardS, u0, u1]
            have HY : Hid (stepY ⟨1, n, 1 + m, 1, 0, 0, 0⟩ 1 co = ⟨co, { data := #[48, 48] }, false⟩) := by simp [Hid, stepY, askedY, askedA, c00, c12, u0, u1]
            have x0 : (co.toList == [48, 48, 49]) = false := by simp [u0]
            have x1 : (co.toList == [48, 48, 50]) = true := by simp [u1]
            clear u0
            clear u1
            go_wp2_with (first
              | (go_at_call 27; refine (told_any v _ co an (hs.alloc _) HG.out hv3 hv4 HQ.out).mono ?_; rintro e w2 ⟨rfl, hs2, hg2⟩; rw [HT.out] at hs2; have hT := (Blk.new wr 57 #[.int .i64 v, .string co, .string an]).grown hg2 (by intro e; injection e; omega); have hz2 := hT.lt; have a0 := hT.cell 0; have a1 := hT.cell 1; have a2 := hT.cell 2; simp at a0 a1 a2; rw [HY.out]; simp only [Y.val])
              | (go_at_call 9; refine (pick_is v 6 _ _ hv3 hv4 (by omega) (by omega) HQ.out).mono ?_; rintro e w' ⟨rfl, rfl⟩)
              | (go_at_call 28; refine (answers_is _ _ _ _ _ true _ (by simp [answersB, ByteArray.toList_eq])).mono ?_; rintro e w3 ⟨rfl, hb3⟩; have hs3 := (hs2.alloc _).call hb3)
              | (go_at_call 13; refine (state_ses 1 hs3 rfl).mono ?_; rintro e w' ⟨rfl, rfl⟩)
              | (go_at_call 18; refine (ready_ses false hs3 rfl).mono ?_; rintro e w' ⟨rfl, rfl⟩))
            go_roundw
            case rel => exact ⟨k + 1, true, false, 1, by omega, by go_num, rfl, rfl, .inr (.inl ⟨rfl, rfl, rfl⟩), hs3⟩
            case measure => simp [intOf]; omega
          by_cases u2 : co.toList = [49, 48, 49]
          · have HG : Hid (Good ⟨1, n, 1 + m, 1, 0, 0, 0⟩) := by simp [Hid, Good]; omega
            have HT : Hid (stepS ⟨1, n, 1 + m, 1, 0, 0, 0⟩ 1 co.toList an.toList = ⟨1, n, 1 + m, 1, 0, 0, 0⟩) := by simp [Hid, stepS, askedS, heardS, u0, u1, u2]
            have HY : Hid (stepY ⟨1, n, 1 + m, 1, 0, 0, 0⟩ 1 co = ⟨co, { data := #[48, 48] }, false⟩) := by simp [Hid, stepY, askedY, askedA, c00, c12, u0, u1, u2]
            have x0 : (co.toList == [48, 48, 49]) = false := by simp [u0]
            have x1 : (co.toList == [48, 48, 50]) = false := by simp [u1]
            have x2 : (co.toList == [49, 48, 49]) = true := by simp [u2]
            clear u0
            clear u1
            clear u2
            go_wp2_with (first
              | (go_at_call 27; refine (told_any v _ co an (hs.alloc _) HG.out hv3 hv4 HQ.out).mono ?_; rintro e w2 ⟨rfl, hs2, hg2⟩; rw [HT.out] at hs2; have hT := (Blk.new wr 57 #[.int .i64 v, .string co, .string an]).grown hg2 (by intro e; injection e; omega); have hz2 := hT.lt; have a0 := hT.cell 0; have a1 := hT.cell 1; have a2 := hT.cell 2; simp at a0 a1 a2; rw [HY.out]; simp only [Y.val])
              | (go_at_call 9; refine (pick_is v 6 _ _ hv3 hv4 (by omega) (by omega) HQ.out).mono ?_; rintro e w' ⟨rfl, rfl⟩)
              | (go_at_call 28; refine (answers_is _ _ _ _ _ true _ (by simp [answersB, ByteArray.toList_eq])).mono ?_; rintro e w3 ⟨rfl, hb3⟩; have hs3 := (hs2.alloc _).call hb3)
              | (go_at_call 13; refine (state_ses 1 hs3 rfl).mono ?_; rintro e w' ⟨rfl, rfl⟩)
              | (go_at_call 18; refine (ready_ses false hs3 rfl).mono ?_; rintro e w' ⟨rfl, rfl⟩))
            go_roundw
            case rel => exact ⟨k + 1, true, false, 1, by omega, by go_num, rfl, rfl, .inr (.inl ⟨rfl, rfl, rfl⟩), hs3⟩
            case measure => simp [intOf]; omega
          by_cases u3 : co.toList = [51, 48, 49]
          · have HG : Hid (Good ⟨1, n, 1 + m, 1, 0, 0, 0⟩) := by simp [Hid, Good]; omega
            have HT : Hid (stepS ⟨1, n, 1 + m, 1, 0, 0, 0⟩ 1 co.toList an.toList = ⟨1, n, 1 + m, 1, 0, 0, 0⟩) := by simp [Hid, stepS, askedS, heardS, u0, u1, u2, u3]
            have HY : Hid (stepY ⟨1, n, 1 + m, 1, 0, 0, 0⟩ 1 co = ⟨co, { data := #[48, 48] }, false⟩) := by simp [Hid, stepY, askedY, askedA, c00, c12, u0, u1, u2, u3]
            have x0 : (co.toList == [48, 48, 49]) = false := by simp [u0]
            have x1 : (co.toList == [48, 48, 50]) = false := by simp [u1]
            have x2 : (co.toList == [49, 48, 49]) = false := by simp [u2]
            have x3 : (co.toList == [51, 48, 49]) = true := by simp [u3]
            clear u0
            clear u1
            clear u2
            clear u3
            go_wp2_with (first
              | (go_at_call 27; refine (told_any v _ co an (hs.alloc _) HG.out hv3 hv4 HQ.out).mono ?_; rintro e w2 ⟨rfl, hs2, hg2⟩; rw [HT.out] at hs2; have hT := (Blk.new wr 57 #[.int .i64 v, .string co, .string an]).grown hg2 (by intro e; injection e; omega); have hz2 := hT.lt; have a0 := hT.cell 0; have a1 := hT.cell 1; have a2 := hT.cell 2; simp at a0 a1 a2; rw [HY.out]; simp only [Y.val])
              | (go_at_call 9; refine (pick_is v 6 _ _ hv3 hv4 (by omega) (by omega) HQ.out).mono ?_; rintro e w' ⟨rfl, rfl⟩)
              | (go_at_call 28; refine (answers_is _ _ _ _ _ true _ (by simp [answersB, ByteArray.toList_eq])).mono ?_; rintro e w3 ⟨rfl, hb3⟩; have hs3 := (hs2.alloc _).call hb3)
              | (go_at_call 13; refine (state_ses 1 hs3 rfl).mono ?_; rintro e w' ⟨rfl, rfl⟩)
              | (go_at_call 18; refine (ready_ses false hs3 rfl).mono ?_; rintro e w' ⟨rfl, rfl⟩))
            go_roundw
            case rel => exact ⟨k + 1, true, false, 1, by omega, by go_num, rfl, rfl, .inr (.inl ⟨rfl, rfl, rfl⟩), hs3⟩
            case measure => simp [intOf]; omega
          have HG : Hid (Good ⟨1, n, 1 + m, 1, 0, 0, 0⟩) := by simp [Hid, Good]; omega
          have HT : Hid (stepS ⟨1, n, 1 + m, 1, 0, 0, 0⟩ 1 co.toList an.toList = ⟨1, n, 1 + m, 1, 0, 0, 0⟩) := by simp [Hid, stepS, askedS, heardS, u0, u1, u2, u3]
          have HY : Hid (stepY ⟨1, n, 1 + m, 1, 0, 0, 0⟩ 1 co = ⟨co, { data := #[49, 50] }, false⟩) := by simp [Hid, stepY, askedY, askedA, c00, c12, u0, u1, u2, u3]
          have x0 : (co.toList == [48, 48, 49]) = false := by simp [u0]
          have x1 : (co.toList == [48, 48, 50]) = false := by simp [u1]
          have x2 : (co.toList == [49, 48, 49]) = false := by simp [u2]
          have x3 : (co.toList == [51, 48, 49]) = false := by simp [u3]
          clear u0
          clear u1
          clear u2
          clear u3
          go_wp2_with (first
            | (go_at_call 27; refine (told_any v _ co an (hs.alloc _) HG.out hv3 hv4 HQ.out).mono ?_; rintro e w2 ⟨rfl, hs2, hg2⟩; rw [HT.out] at hs2; have hT := (Blk.new wr 57 #[.int .i64 v, .string co, .string an]).grown hg2 (by intro e; injection e; omega); have hz2 := hT.lt; have a0 := hT.cell 0; have a1 := hT.cell 1; have a2 := hT.cell 2; simp at a0 a1 a2; rw [HY.out]; simp only [Y.val])
            | (go_at_call 9; refine (pick_is v 6 _ _ hv3 hv4 (by omega) (by omega) HQ.out).mono ?_; rintro e w' ⟨rfl, rfl⟩)
            | (go_at_call 28; refine (answers_is _ _ _ _ _ true _ (by simp [answersB, ByteArray.toList_eq])).mono ?_; rintro e w3 ⟨rfl, hb3⟩; have hs3 := (hs2.alloc _).call hb3)
            | (go_at_call 13; refine (state_ses 1 hs3 rfl).mono ?_; rintro e w' ⟨rfl, rfl⟩)
            | (go_at_call 18; refine (ready_ses false hs3 rfl).mono ?_; rintro e w' ⟨rfl, rfl⟩))
          go_roundw
          case rel => exact ⟨k + 1, true, false, 1, by omega, by go_num, rfl, rfl, .inr (.inl ⟨rfl, rfl, rfl⟩), hs3⟩
          case measure => simp [intOf]; omega
        · have HQ := Lib.hid hq
          clear hq
          have HG : Hid (Good ⟨1, n, 1 + m, 1, 0, 0, 0⟩) := by simp [Hid, Good]; omega
          have HT : Hid (stepS ⟨1, n, 1 + m, 1, 0, 0, 0⟩ 2 co.toList an.toList = ⟨1, n, 1 + m, 1, 0, 0, 0⟩) := by simp [Hid, stepS, heardS, answeredS, tickS, upS, downS]
          have HY : Hid (stepY ⟨1, n, 1 + m, 1, 0, 0, 0⟩ 2 co = ⟨{ data := #[] }, { data := #[] }, false⟩) := by simp [Hid, stepY, tickY, upY, quietY, cNone]
          go_wp2_with (first
            | (go_at_call 27; refine (told_any v _ co an (hs.alloc _) HG.out hv3 hv4 HQ.out).mono ?_; rintro e w2 ⟨rfl, hs2, hg2⟩; rw [HT.out] at hs2; have hT := (Blk.new wr 57 #[.int .i64 v, .string co, .string an]).grown hg2 (by intro e; injection e; omega); have hz2 := hT.lt; have a0 := hT.cell 0; have a1 := hT.cell 1; have a2 := hT.cell 2; simp at a0 a1 a2; rw [HY.out]; simp only [Y.val])
            | (go_at_call 9; refine (pick_is v 6 _ _ hv3 hv4 (by omega) (by omega) HQ.out).mono ?_; rintro e w' ⟨rfl, rfl⟩)
            | (go_at_call 12; refine (nothing_is _ _ _ true _ nothing_quiet).mono ?_; rintro e w3 ⟨rfl, hb3⟩; have hs3 := (hs2.alloc _).call hb3; have hT3 := (hT.alloc _).below hb3 (by simp; omega); have c0 := hT3.cell 0; have c1 := hT3.cell 1; have c2 := hT3.cell 2; simp at c0 c1 c2; clear a0 a1 a2)
            | (go_at_call 13; refine (state_ses 1 hs3 rfl).mono ?_; rintro e w' ⟨rfl, rfl⟩)
            | (go_at_call 18; refine (ready_ses false hs3 rfl).mono ?_; rintro e w' ⟨rfl, rfl⟩))
          go_roundw
          case rel => exact ⟨k + 1, true, false, 1, by omega, by go_num, rfl, rfl, .inr (.inl ⟨rfl, rfl, rfl⟩), hs3⟩
          case measure => simp [intOf]; omega
        · have HQ := Lib.hid hq
          clear hq
          have HG : Hid (Good ⟨1, n, 1 + m, 1, 0, 0, 0⟩) := by simp [Hid, Good]; omega
          have HT : Hid (stepS ⟨1, n, 1 + m, 1, 0, 0, 0⟩ 3 co.toList an.toList = ⟨1, n, 1 + m, 1, 0, 0, 0⟩) := by simp [Hid, stepS, heardS, answeredS, tickS, upS, downS]
          have HY : Hid (stepY ⟨1, n, 1 + m, 1, 0, 0, 0⟩ 3 co = ⟨{ data := #[] }, { data := #[] }, false⟩) := by simp [Hid, stepY, tickY, upY, quietY, cNone]
          go_wp2_with (first
            | (go_at_call 27; refine (told_any v _ co an (hs.alloc _) HG.out hv3 hv4 HQ.out).mono ?_; rintro e w2 ⟨rfl, hs2, hg2⟩; rw [HT.out] at hs2; have hT := (Blk.new wr 57 #[.int .i64 v, .string co, .string an]).grown hg2 (by intro e; injection e; omega); have hz2 := hT.lt; have a0 := hT.cell 0; have a1 := hT.cell 1; have a2 := hT.cell 2; simp at a0 a1 a2; rw [HY.out]; simp only [Y.val])
            | (go_at_call 9; refine (pick_is v 6 _ _ hv3 hv4 (by omega) (by omega) HQ.out).mono ?_; rintro e w' ⟨rfl, rfl⟩)
            | (go_at_call 12; refine (nothing_is _ _ _ true _ nothing_quiet).mono ?_; rintro e w3 ⟨rfl, hb3⟩; have hs3 := (hs2.alloc _).call hb3; have hT3 := (hT.alloc _).below hb3 (by simp; omega); have c0 := hT3.cell 0; have c1 := hT3.cell 1; have c2 := hT3.cell 2; simp at c0 c1 c2; clear a0 a1 a2)
            | (go_at_call 13; refine (state_ses 1 hs3 rfl).mono ?_; rintro e w' ⟨rfl, rfl⟩)
            | (go_at_call 18; refine (ready_ses false hs3 rfl).mono ?_; rintro e w' ⟨rfl, rfl⟩))
          go_roundw
          case rel => exact ⟨k + 1, true, false, 1, by omega, by go_num, rfl, rfl, .inr (.inl ⟨rfl, rfl, rfl⟩), hs3⟩
          case measure => simp [intOf]; omega
        · have HQ := Lib.hid hq
          clear hq
          have HG : Hid (Good ⟨1, n, 1 + m, 1, 0, 0, 0⟩) := by simp [Hid, Good]; omega
          have HT : Hid (stepS ⟨1, n, 1 + m, 1, 0, 0, 0⟩ 4 co.toList an.toList = ⟨1, n, 1 + m, 1, 0, 0, 0⟩) := by simp [Hid, stepS, heardS, answeredS, tickS, upS, downS]
          have HY : Hid (stepY ⟨1, n, 1 + m, 1, 0, 0, 0⟩ 4 co = ⟨{ data := #[] }, { data := #[] }, false⟩) := by simp [Hid, stepY, tickY, upY, quietY, cNone]
          go_wp2_with (first
            | (go_at_call 27; refine (told_any v _ co an (hs.alloc _) HG.out hv3 hv4 HQ.out).mono ?_; rintro e w2 ⟨rfl, hs2, hg2⟩; rw [HT.out] at hs2; have hT := (Blk.new wr 57 #[.int .i64 v, .string co, .string an]).grown hg2 (by intro e; injection e; omega); have hz2 := hT.lt; have a0 := hT.cell 0; have a1 := hT.cell 1; have a2 := hT.cell 2; simp at a0 a1 a2; rw [HY.out]; simp only [Y.val])
            | (go_at_call 9; refine (pick_is v 6 _ _ hv3 hv4 (by omega) (by omega) HQ.out).mono ?_; rintro e w' ⟨rfl, rfl⟩)
            | (go_at_call 12; refine (nothing_is _ _ _ true _ nothing_quiet).mono ?_; rintro e w3 ⟨rfl, hb3⟩; have hs3 := (hs2.alloc _).call hb3; have hT3 := (hT.alloc _).below hb3 (by simp; omega); have c0 := hT3.cell 0; have c1 := hT3.cell 1; have c2 := hT3.cell 2; simp at c0 c1 c2; clear a0 a1 a2)
            | (go_at_call 13; refine (state_ses 1 hs3 rfl).mono ?_; rintro e w' ⟨rfl, rfl⟩)
            | (go_at_call 18; refine (ready_ses false hs3 rfl).mono ?_; rintro e w' ⟨rfl, rfl⟩))
          go_roundw
          case rel => exact ⟨k + 1, true, false, 1, by omega, by go_num, rfl, rfl, .inr (.inl ⟨rfl, rfl, rfl⟩), hs3⟩
          case measure => simp [intOf]; omega
        · have HQ := Lib.hid hq
          clear hq
          have HG : Hid (Good ⟨1, n, 1 + m, 1, 0, 0, 0⟩) := by simp [Hid, Good]; omega
          have HT : Hid (stepS ⟨1, n, 1 + m, 1, 0, 0, 0⟩ 5 co.toList an.toList = ⟨1, n, 1 + m, 0, 0, 0, 0⟩) := by simp [Hid, stepS, heardS, answeredS, tickS, upS, downS]
          have HY : Hid (stepY ⟨1, n, 1 + m, 1, 0, 0, 0⟩ 5 co = ⟨{ data := #[] }, { data := #[] }, false⟩) := by simp [Hid, stepY, tickY, upY, quietY, cNone]
          go_wp2_with (first
            | (go_at_call 27; refine (told_any v _ co an (hs.alloc _) HG.out hv3 hv4 HQ.out).mono ?_; rintro e w2 ⟨rfl, hs2, hg2⟩; rw [HT.out] at hs2; have hT := (Blk.new wr 57 #[.int .i64 v, .string co, .string an]).grown hg2 (by intro e; injection e; omega); have hz2 := hT.lt; have a0 := hT.cell 0; have a1 := hT.cell 1; have a2 := hT.cell 2; simp at a0 a1 a2; rw [HY.out]; simp only [Y.val])
            | (go_at_call 9; refine (pick_is v 6 _ _ hv3 hv4 (by omega) (by omega) HQ.out).mono ?_; rintro e w' ⟨rfl, rfl⟩)
            | (go_at_call 12; refine (nothing_is _ _ _ true _ nothing_quiet).mono ?_; rintro e w3 ⟨rfl, hb3⟩; have hs3 := (hs2.alloc _).call hb3; have hT3 := (hT.alloc _).below hb3 (by simp; omega); have c0 := hT3.cell 0; have c1 := hT3.cell 1; have c2 := hT3.cell 2; simp at c0 c1 c2; clear a0 a1 a2)
            | (go_at_call 13; refine (state_ses 0 hs3 rfl).mono ?_; rintro e w' ⟨rfl, rfl⟩)
            | (go_at_call 18; refine (ready_ses false hs3 rfl).mono ?_; rintro e w' ⟨rfl, rfl⟩))
          go_roundw
          case rel => exact ⟨k + 1, false, false, 0, by omega, by go_num, rfl, rfl, .inl ⟨rfl, rfl, rfl⟩, hs3⟩
          case measure => simp [intOf]; omega
      · rcases hq6 with rfl | rfl | rfl | rfl | rfl | rfl
        · have HQ := Lib.hid hq
          clear hq
          have HG : Hid (Good ⟨1, n, 1 + m, 3, 0, 0, 0⟩) := by simp [Hid, Good]; omega
          have HT : Hid (stepS ⟨1, n, 1 + m, 3, 0, 0, 0⟩ 0 co.toList an.toList = ⟨1, n, 1 + m, 3, 0, 0, 0⟩) := by simp [Hid, stepS, heardS, answeredS, tickS, upS, downS]
          have HY : Hid (stepY ⟨1, n, 1 + m, 3, 0, 0, 0⟩ 0 co = ⟨{ data := #[] }, { data := #[] }, false⟩) := by simp [Hid, stepY, tickY, upY, quietY, cNone]
          go_wp2_with (first
            | (go_at_call 27; refine (told_any v _ co an (hs.alloc _) HG.out hv3 hv4 HQ.out).mono ?_; rintro e w2 ⟨rfl, hs2, hg2⟩; rw [HT.out] at hs2; have hT := (Blk.new wr 57 #[.int .i64 v, .string co, .string an]).grown hg2 (by intro e; injection e; omega); have hz2 := hT.lt; have a0 := hT.cell 0; have a1 := hT.cell 1; have a2 := hT.cell 2; simp at a0 a1 a2; rw [HY.out]; simp only [Y.val])
            | (go_at_call 9; refine (pick_is v 6 _ _ hv3 hv4 (by omega) (by omega) HQ.out).mono ?_; rintro e w' ⟨rfl, rfl⟩)
            | (go_at_call 12; refine (nothing_is _ _ _ true _ nothing_quiet).mono ?_; rintro e w3 ⟨rfl, hb3⟩; have hs3 := (hs2.alloc _).call hb3; have hT3 := (hT.alloc _).below hb3 (by simp; omega); have c0 := hT3.cell 0; have c1 := hT3.cell 1; have c2 := hT3.cell 2; simp at c0 c1 c2; clear a0 a1 a2)
            | (go_at_call 13; refine (state_ses 3 hs3 rfl).mono ?_; rintro e w' ⟨rfl, rfl⟩)
            | (go_at_call 18; refine (ready_ses true hs3 rfl).mono ?_; rintro e w' ⟨rfl, rfl⟩))
          go_roundw
          case rel => exact ⟨k + 1, true, true, 3, by omega, by go_num, rfl, rfl, .inr (.inr ⟨rfl, rfl, rfl⟩), hs3⟩
          case measure => simp [intOf]; omega
        · have HQ := Lib.hid hq
          clear hq
          by_cases u0 : co.toList = [48, 48, 49]
          · have HG : Hid (Good ⟨1, n, 1 + m, 3, 0, 0, 0⟩) := by simp [Hid, Good]; omega
            have HT : Hid (stepS ⟨1, n, 1 + m, 3, 0, 0, 0⟩ 1 co.toList an.toList = ⟨1, n, 1 + m, 3, 0, 0, 0⟩) := by simp [Hid, stepS, askedS, heardS, u0]
            have HY : Hid (stepY ⟨1, n, 1 + m, 3, 0, 0, 0⟩ 1 co = ⟨co, { data := #[48, 48] }, false⟩) := by simp [Hid, stepY, askedY, askedA, c00, c12, u0]
            have x0 : (co.toList == [48, 48, 49]) = true := by simp [u0]
            clear u0
            go_wp2_with (first
              | (go_at_call 27; refine (told_any v _ co an (hs.alloc _) HG.out hv3 hv4 HQ.out).mono ?_; rintro e w2 ⟨rfl, hs2, hg2⟩; rw [HT.out] at hs2; have hT := (Blk.new wr 57 #[.int .i64 v, .string co, .string an]).grown hg2 (by intro e; injection e; omega); have hz2 := hT.lt; have a0 := hT.cell 0; have a1 := hT.cell 1; have a2 := hT.cell 2; simp at a0 a1 a2; rw [HY.out]; simp only [Y.val])
              | (go_at_call 9; refine (pick_is v 6 _ _ hv3 hv4 (by omega) (by omega) HQ.out).mono ?_; rintro e w' ⟨rfl, rfl⟩)
              | (go_at_call 28; refine (answers_is _ _ _ _ _ true _ (by simp [answersB, ByteArray.toList_eq])).mono ?_; rintro e w3 ⟨rfl, hb3⟩; have hs3 := (hs2.alloc _).call hb3)
              | (go_at_call 13; refine (state_ses 3 hs3 rfl).mono ?_; rintro e w' ⟨rfl, rfl⟩)
              | (go_at_call 18; refine (ready_ses true hs3 rfl).mono ?_; rintro e w' ⟨rfl, rfl⟩))
            go_roundw
            case rel => exact ⟨k + 1, true, true, 3, by omega, by go_num, rfl, rfl, .inr (.inr ⟨rfl, rfl, rfl⟩), hs3⟩
            case measure => simp [intOf]; omega
          by_cases u1 : co.toList = [48, 48, 50]
          · have HG : Hid (Good ⟨1, n, 1 + m, 3, 0, 0, 0⟩) := by simp [Hid, Good]; omega
            have HT : Hid (stepS ⟨1, n, 1 + m, 3, 0, 0, 0⟩ 1 co.toList an.toList = ⟨1, n, 1 + m, 1, 0, 0, 0⟩) := by simp [Hid, stepS, askedS, heardS, u0, u1]
            have HY : Hid (stepY ⟨1, n, 1 + m, 3, 0, 0, 0⟩ 1 co = ⟨co, { data := #[48, 48] }, false⟩) := by simp [Hid, stepY, askedY, askedA, c00, c12, u0, u1]
            have x0 : (co.toList == [48, 48, 49]) = false := by simp [u0]
            have x1 : (co.toList == [48, 48, 50]) = true := by simp [u1]
            clear u0
            clear u1
            go_wp2_with (first
              | (go_at_call 27; refine (told_any v _ co an (hs.alloc _) HG.out hv3 hv4 HQ.out).mono ?_; rintro e w2 ⟨rfl, hs2, hg2⟩; rw [HT.out] at hs2; have hT := (Blk.new wr 57 #[.int .i64 v, .string co, .string an]).grown hg2 (by intro e; injection e; omega); have hz2 := hT.lt; have a0 := hT.cell 0; have a1 := hT.cell 1; have a2 := hT.cell 2; simp at a0 a1 a2; rw [HY.out]; simp only [Y.val])
              | (go_at_call 9; refine (pick_is v 6 _ _ hv3 hv4 (by omega) (by omega) HQ.out).mono ?_; rintro e w' ⟨rfl, rfl⟩)
              | (go_at_call 28; refine (answers_is _ _ _ _ _ true _ (by simp [answersB, ByteArray.toList_eq])).mono ?_; rintro e w3 ⟨rfl, hb3⟩; have hs3 := (hs2.alloc _).call hb3)
              | (go_at_call 13; refine (state_ses 1 hs3 rfl).mono ?_; rintro e w' ⟨rfl, rfl⟩)
              | (go_at_call 18; refine (ready_ses false hs3 rfl).mono ?_; rintro e w' ⟨rfl, rfl⟩))
            go_roundw
            case rel => exact ⟨k + 1, true, false, 1, by omega, by go_num, rfl, rfl, .inr (.inl ⟨rfl, rfl, rfl⟩), hs3⟩
            case measure => simp [intOf]; omega
          by_cases u2 : co.toList = [49, 48, 49]
          · have HG : Hid (Good ⟨1, n, 1 + m, 3, 0, 0, 0⟩) := by simp [Hid, Good]; omega
            have HT : Hid (stepS ⟨1, n, 1 + m, 3, 0, 0, 0⟩ 1 co.toList an.toList = ⟨1, n, 1 + m, 3, 0, 0, 0⟩) := by simp [Hid, stepS, askedS, heardS, u0, u1, u2]
            have HY : Hid (stepY ⟨1, n, 1 + m, 3, 0, 0, 0⟩ 1 co = ⟨co, { data := #[48, 48] }, false⟩) := by simp [Hid, stepY, askedY, askedA, c00, c12, u0, u1, u2]
            have x0 : (co.toList == [48, 48, 49]) = false := by simp [u0]
            have x1 : (co.toList == [48, 48, 50]) = false := by simp [u1]
            have x2 : (co.toList == [49, 48, 49]) = true := by simp [u2]
            clear u0
            clear u1
            clear u2
            go_wp2_with (first
              | (go_at_call 27; refine (told_any v _ co an (hs.alloc _) HG.out hv3 hv4 HQ.out).mono ?_; rintro e w2 ⟨rfl, hs2, hg2⟩; rw [HT.out] at hs2; have hT := (Blk.new wr 57 #[.int .i64 v, .string co, .string an]).grown hg2 (by intro e; injection e; omega); have hz2 := hT.lt; have a0 := hT.cell 0; have a1 := hT.cell 1; have a2 := hT.cell 2; simp at a0 a1 a2; rw [HY.out]; simp only [Y.val])
              | (go_at_call 9; refine (pick_is v 6 _ _ hv3 hv4 (by omega) (by omega) HQ.out).mono ?_; rintro e w' ⟨rfl, rfl⟩)
              | (go_at_call 28; refine (answers_is _ _ _ _ _ true _ (by simp [answersB, ByteArray.toList_eq])).mono ?_; rintro e w3 ⟨rfl, hb3⟩; have hs3 := (hs2.alloc _).call hb3)
              | (go_at_call 13; refine (state_ses 3 hs3 rfl).mono ?_; rintro e w' ⟨rfl, rfl⟩)
              | (go_at_call 18; refine (ready_ses true hs3 rfl).mono ?_; rintro e w' ⟨rfl, rfl⟩))
            go_roundw
            case rel => exact ⟨k + 1, true, true, 3, by omega, by go_num, rfl, rfl, .inr (.inr ⟨rfl, rfl, rfl⟩), hs3⟩
            case measure => simp [intOf]; omega
          by_cases u3 : co.toList = [51, 48, 49]
          · have HG : Hid (Good ⟨1, n, 1 + m, 3, 0, 0, 0⟩) := by simp [Hid, Good]; omega
            have HT : Hid (stepS ⟨1, n, 1 + m, 3, 0, 0, 0⟩ 1 co.toList an.toList = ⟨1, n, 1 + m, 3, 0, 0, 0⟩) := by simp [Hid, stepS, askedS, heardS, u0, u1, u2, u3]
            have HY : Hid (stepY ⟨1, n, 1 + m, 3, 0, 0, 0⟩ 1 co = ⟨co, { data := #[48, 48] }, false⟩) := by simp [Hid, stepY, askedY, askedA, c00, c12, u0, u1, u2, u3]
            have x0 : (co.toList == [48, 48, 49]) = false := by simp [u0]
            have x1 : (co.toList == [48, 48, 50]) = false := by simp [u1]
            have x2 : (co.toList == [49, 48, 49]) = false := by simp [u2]
            have x3 : (co.toList == [51, 48, 49]) = true := by simp [u3]
            clear u0
            clear u1
            clear u2
            clear u3
            go_wp2_with (first
              | (go_at_call 27; refine (told_any v _ co an (hs.alloc _) HG.out hv3 hv4 HQ.out).mono ?_; rintro e w2 ⟨rfl, hs2, hg2⟩; rw [HT.out] at hs2; have hT := (Blk.new wr 57 #[.int .i64 v, .string co, .string an]).grown hg2 (by intro e; injection e; omega); have hz2 := hT.lt; have a0 := hT.cell 0; have a1 := hT.cell 1; have a2 := hT.cell 2; simp at a0 a1 a2; rw [HY.out]; simp only [Y.val])
              | (go_at_call 9; refine (pick_is v 6 _ _ hv3 hv4 (by omega) (by omega) HQ.out).mono ?_; rintro e w' ⟨rfl, rfl⟩)
              | (go_at_call 28; refine (answers_is _ _ _ _ _ true _ (by simp [answersB, ByteArray.toList_eq])).mono ?_; rintro e w3 ⟨rfl, hb3⟩; have hs3 := (hs2.alloc _).call hb3)
              | (go_at_call 13; refine (state_ses 3 hs3 rfl).mono ?_; rintro e w' ⟨rfl, rfl⟩)
              | (go_at_call 18; refine (ready_ses true hs3 rfl).mono ?_; rintro e w' ⟨rfl, rfl⟩))
            go_roundw
            case rel => exact ⟨k + 1, true, true, 3, by omega, by go_num, rfl, rfl, .inr (.inr ⟨rfl, rfl, rfl⟩), hs3⟩
            case measure => simp [intOf]; omega
          have HG : Hid (Good ⟨1, n, 1 + m, 3, 0, 0, 0⟩) := by simp [Hid, Good]; omega
          have HT : Hid (stepS ⟨1, n, 1 + m, 3, 0, 0, 0⟩ 1 co.toList an.toList = ⟨1, n, 1 + m, 3, 0, 0, 0⟩) := by simp [Hid, stepS, askedS, heardS, u0, u1, u2, u3]
          have HY : Hid (stepY ⟨1, n, 1 + m, 3, 0, 0, 0⟩ 1 co = ⟨co, { data := #[49, 50] }, false⟩) := by simp [Hid, stepY, askedY, askedA, c00, c12, u0, u1, u2, u3]
          have x0 : (co.toList == [48, 48, 49]) = false := by simp [u0]
          have x1 : (co.toList == [48, 48, 50]) = false := by simp [u1]
          have x2 : (co.toList == [49, 48, 49]) = false := by simp [u2]
          have x3 : (co.toList == [51, 48, 49]) = false := by simp [u3]
          clear u0
          clear u1
          clear u2
          clear u3
          go_wp2_with (first
            | (go_at_call 27; refine (told_any v _ co an (hs.alloc _) HG.out hv3 hv4 HQ.out).mono ?_; rintro e w2 ⟨rfl, hs2, hg2⟩; rw [HT.out] at hs2; have hT := (Blk.new wr 57 #[.int .i64 v, .string co, .string an]).grown hg2 (by intro e; injection e; omega); have hz2 := hT.lt; have a0 := hT.cell 0; have a1 := hT.cell 1; have a2 := hT.cell 2; simp at a0 a1 a2; rw [HY.out]; simp only [Y.val])
            | (go_at_call 9; refine (pick_is v 6 _ _ hv3 hv4 (by omega) (by omega) HQ.out).mono ?_; rintro e w' ⟨rfl, rfl⟩)
            | (go_at_call 28; refine (answers_is _ _ _ _ _ true _ (by simp [answersB, ByteArray.toList_eq])).mono ?_; rintro e w3 ⟨rfl, hb3⟩; have hs3 := (hs2.alloc _).call hb3)
            | (go_at_call 13; refine (state_ses 3 hs3 rfl).mono ?_; rintro e w' ⟨rfl, rfl⟩)
            | (go_at_call 18; refine (ready_ses true hs3 rfl).mono ?_; rintro e w' ⟨rfl, rfl⟩))
          go_roundw
          case rel => exact ⟨k + 1, true, true, 3, by omega, by go_num, rfl, rfl, .inr (.inr ⟨rfl, rfl, rfl⟩), hs3⟩
          case measure => simp [intOf]; omega
        · have HQ := Lib.hid hq
          clear hq
          have HG : Hid (Good ⟨1, n, 1 + m, 3, 0, 0, 0⟩) := by simp [Hid, Good]; omega
          have HT : Hid (stepS ⟨1, n, 1 + m, 3, 0, 0, 0⟩ 2 co.toList an.toList = ⟨1, n, 1 + m, 3, 0, 0, 0⟩) := by simp [Hid, stepS, heardS, answeredS, tickS, upS, downS]
          have HY : Hid (stepY ⟨1, n, 1 + m, 3, 0, 0, 0⟩ 2 co = ⟨{ data := #[] }, { data := #[] }, false⟩) := by simp [Hid, stepY, tickY, upY, quietY, cNone]
          go_wp2_with (first
            | (go_at_call 27; refine (told_any v _ co an (hs.alloc _) HG.out hv3 hv4 HQ.out).mono ?_; rintro e w2 ⟨rfl, hs2, hg2⟩; rw [HT.out] at hs2; have hT := (Blk.new wr 57 #[.int .i64 v, .string co, .string an]).grown hg2 (by intro e; injection e; omega); have hz2 := hT.lt; have a0 := hT.cell 0; have a1 := hT.cell 1; have a2 := hT.cell 2; simp at a0 a1 a2; rw [HY.out]; simp only [Y.val])
            | (go_at_call 9; refine (pick_is v 6 _ _ hv3 hv4 (by omega) (by omega) HQ.out).mono ?_; rintro e w' ⟨rfl, rfl⟩)
            | (go_at_call 12; refine (nothing_is _ _ _ true _ nothing_quiet).mono ?_; rintro e w3 ⟨rfl, hb3⟩; have hs3 := (hs2.alloc _).call hb3; have hT3 := (hT.alloc _).below hb3 (by simp; omega); have c0 := hT3.cell 0; have c1 := hT3.cell 1; have c2 := hT3.cell 2; simp at c0 c1 c2; clear a0 a1 a2)
            | (go_at_call 13; refine (state_ses 3 hs3 rfl).mono ?_; rintro e w' ⟨rfl, rfl⟩)
            | (go_at_call 18; refine (ready_ses true hs3 rfl).mono ?_; rintro e w' ⟨rfl, rfl⟩))
          go_roundw
          case rel => exact ⟨k + 1, true, true, 3, by omega, by go_num, rfl, rfl, .inr (.inr ⟨rfl, rfl, rfl⟩), hs3⟩
          case measure => simp [intOf]; omega
        · have HQ := Lib.hid hq
          clear hq
          have HG : Hid (Good ⟨1, n, 1 + m, 3, 0, 0, 0⟩) := by simp [Hid, Good]; omega
          have HT : Hid (stepS ⟨1, n, 1 + m, 3, 0, 0, 0⟩ 3 co.toList an.toList = ⟨1, n, 1 + m, 3, 0, 0, 0⟩) := by simp [Hid, stepS, heardS, answeredS, tickS, upS, downS]
          have HY : Hid (stepY ⟨1, n, 1 + m, 3, 0, 0, 0⟩ 3 co = ⟨{ data := #[] }, { data := #[] }, false⟩) := by simp [Hid, stepY, tickY, upY, quietY, cNone]
          go_wp2_with (first
            | (go_at_call 27; refine (told_any v _ co an (hs.alloc _) HG.out hv3 hv4 HQ.out).mono ?_; rintro e w2 ⟨rfl, hs2, hg2⟩; rw [HT.out] at hs2; have hT := (Blk.new wr 57 #[.int .i64 v, .string co, .string an]).grown hg2 (by intro e; injection e; omega); have hz2 := hT.lt; have a0 := hT.cell 0; have a1 := hT.cell 1; have a2 := hT.cell 2; simp at a0 a1 a2; rw [HY.out]; simp only [Y.val])
            | (go_at_call 9; refine (pick_is v 6 _ _ hv3 hv4 (by omega) (by omega) HQ.out).mono ?_; rintro e w' ⟨rfl, rfl⟩)
            | (go_at_call 12; refine (nothing_is _ _ _ true _ nothing_quiet).mono ?_; rintro e w3 ⟨rfl, hb3⟩; have hs3 := (hs2.alloc _).call hb3; have hT3 := (hT.alloc _).below hb3 (by simp; omega); have c0 := hT3.cell 0; have c1 := hT3.cell 1; have c2 := hT3.cell 2; simp at c0 c1 c2; clear a0 a1 a2)
            | (go_at_call 13; refine (state_ses 3 hs3 rfl).mono ?_; rintro e w' ⟨rfl, rfl⟩)
            | (go_at_call 18; refine (ready_ses true hs3 rfl).mono ?_; rintro e w' ⟨rfl, rfl⟩))
          go_roundw
          case rel => exact ⟨k + 1, true, true, 3, by omega, by go_num, rfl, rfl, .inr (.inr ⟨rfl, rfl, rfl⟩), hs3⟩
          case measure => simp [intOf]; omega
        · have HQ := Lib.hid hq
          clear hq
          have HG : Hid (Good ⟨1, n, 1 + m, 3, 0, 0, 0⟩) := by simp [Hid, Good]; omega
          have HT : Hid (stepS ⟨1, n, 1 + m, 3, 0, 0, 0⟩ 4 co.toList an.toList = ⟨1, n, 1 + m, 1, 0, 0, 0⟩) := by simp [Hid, stepS, heardS, answeredS, tickS, upS, downS]
          have HY : Hid (stepY ⟨1, n, 1 + m, 3, 0, 0, 0⟩ 4 co = ⟨{ data := #[] }, { data := #[] }, false⟩) := by simp [Hid, stepY, tickY, upY, quietY, cNone]
          go_wp2_with (first
            | (go_at_call 27; refine (told_any v _ co an (hs.alloc _) HG.out hv3 hv4 HQ.out).mono ?_; rintro e w2 ⟨rfl, hs2, hg2⟩; rw [HT.out] at hs2; have hT := (Blk.new wr 57 #[.int .i64 v, .string co, .string an]).grown hg2 (by intro e; injection e; omega); have hz2 := hT.lt; have a0 := hT.cell 0; have a1 := hT.cell 1; have a2 := hT.cell 2; simp at a0 a1 a2; rw [HY.out]; simp only [Y.val])
            | (go_at_call 9; refine (pick_is v 6 _ _ hv3 hv4 (by omega) (by omega) HQ.out).mono ?_; rintro e w' ⟨rfl, rfl⟩)
            | (go_at_call 12; refine (nothing_is _ _ _ true _ nothing_quiet).mono ?_; rintro e w3 ⟨rfl, hb3⟩; have hs3 := (hs2.alloc _).call hb3; have hT3 := (hT.alloc _).below hb3 (by simp; omega); have c0 := hT3.cell 0; have c1 := hT3.cell 1; have c2 := hT3.cell 2; simp at c0 c1 c2; clear a0 a1 a2)
            | (go_at_call 13; refine (state_ses 1 hs3 rfl).mono ?_; rintro e w' ⟨rfl, rfl⟩)
            | (go_at_call 18; refine (ready_ses false hs3 rfl).mono ?_; rintro e w' ⟨rfl, rfl⟩))
          go_roundw
          case rel => exact ⟨k + 1, true, false, 1, by omega, by go_num, rfl, rfl, .inr (.inl ⟨rfl, rfl, rfl⟩), hs3⟩
          case measure => simp [intOf]; omega
        · have HQ := Lib.hid hq
          clear hq
          have HG : Hid (Good ⟨1, n, 1 + m, 3, 0, 0, 0⟩) := by simp [Hid, Good]; omega
          have HT : Hid (stepS ⟨1, n, 1 + m, 3, 0, 0, 0⟩ 5 co.toList an.toList = ⟨1, n, 1 + m, 0, 0, 0, 0⟩) := by simp [Hid, stepS, heardS, answeredS, tickS, upS, downS]
          have HY : Hid (stepY ⟨1, n, 1 + m, 3, 0, 0, 0⟩ 5 co = ⟨{ data := #[] }, { data := #[] }, false⟩) := by simp [Hid, stepY, tickY, upY, quietY, cNone]
          go_wp2_with (first
            | (go_at_call 27; refine (told_any v _ co an (hs.alloc _) HG.out hv3 hv4 HQ.out).mono ?_; rintro e w2 ⟨rfl, hs2, hg2⟩; rw [HT.out] at hs2; have hT := (Blk.new wr 57 #[.int .i64 v, .string co, .string an]).grown hg2 (by intro e; injection e; omega); have hz2 := hT.lt; have a0 := hT.cell 0; have a1 := hT.cell 1; have a2 := hT.cell 2; simp at a0 a1 a2; rw [HY.out]; simp only [Y.val])
            | (go_at_call 9; refine (pick_is v 6 _ _ hv3 hv4 (by omega) (by omega) HQ.out).mono ?_; rintro e w' ⟨rfl, rfl⟩)
            | (go_at_call 12; refine (nothing_is _ _ _ true _ nothing_quiet).mono ?_; rintro e w3 ⟨rfl, hb3⟩; have hs3 := (hs2.alloc _).call hb3; have hT3 := (hT.alloc _).below hb3 (by simp; omega); have c0 := hT3.cell 0; have c1 := hT3.cell 1; have c2 := hT3.cell 2; simp at c0 c1 c2; clear a0 a1 a2)
            | (go_at_call 13; refine (state_ses 0 hs3 rfl).mono ?_; rintro e w' ⟨rfl, rfl⟩)
            | (go_at_call 18; refine (ready_ses false hs3 rfl).mono ?_; rintro e w' ⟨rfl, rfl⟩))
          go_roundw
          case rel => exact ⟨k + 1, false, false, 0, by omega, by go_num, rfl, rfl, .inl ⟨rfl, rfl, rfl⟩, hs3⟩
          case measure => simp [intOf]; omega
    · go_wp2
      go_ret
      exact ⟨rfl, hs.2.2.1⟩
end Go.Proofs.Ytcdikjomiomnpaa

