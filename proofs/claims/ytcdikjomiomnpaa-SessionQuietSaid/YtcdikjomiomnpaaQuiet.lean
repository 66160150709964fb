/-
  SessionQuiet: the walk.
-/
import Derived.Test.YtcdikjomiomnpaaLost
import Derived.Deep.RegionWith
namespace Go.Proofs.Ytcdikjomiomnpaa
open Go.RowKit
set_option linter.unusedVariables false
set_option linter.unusedSimpArgs false

/-- A slice of ints that came in: each element's cell, its block below B. -/
def Ints (w : World) (B : Nat) (A : Option Addr) (n : Nat) : Prop :=
  ∀ k, k < n → ∃ (b off : Nat) (z : Int), A = some ⟨b, off, none⟩ ∧ b < B ∧ w.cell? ⟨b, off + k, none⟩ = some (.int .i64 z) ∧ -9223372036854775808 ≤ z ∧ z ≤ 9223372036854775807
theorem Ints.below {w w' : World} {B : Nat} {A : Option Addr} {n : Nat} (h : Ints w B A n) (hb : Below B w w') : Ints w' B A n := by
  intro k hk
  obtain ⟨b, off, z, e, hlt, hc, h1, h2⟩ := h k hk
  exact ⟨b, off, z, e, hlt, (hb.cell (p := ⟨b, off + k, none⟩) hlt).trans hc, h1, h2⟩

theorem quiet_tick (n m j : Int) (hn : 0 ≤ n) (h : j + 1 < 2 + n) : tickS ⟨2, 2 + n, 1 + m, 3, 0, j, 0⟩ = ⟨2, 2 + n, 1 + m, 3, 0, j + 1, 0⟩ := by
  have a2 : ¬ 2 + n = 0 := by omega
  simp [tickS, h, a2]
theorem quiet_says (n m j : Int) (hn : 0 ≤ n) (h : j + 1 < 2 + n) : tickY ⟨2, 2 + n, 1 + m, 3, 0, j, 0⟩ = ⟨{ data := #[] }, { data := #[] }, false⟩ := by
  have a2 : ¬ 2 + n = 0 := by omega
  simp [tickY, h, a2]; rfl
set_option maxRecDepth 100000 in
set_option maxHeartbeats 3200000 in
theorem quiet_some (c d : Int) (n m : Int) (A C : Option Addr) (la ca lc cc : Nat) (w : World) (l1 : -9223372036854775808 ≤ c) (l2 : c ≤ 9223372036854775807) (l3 : -9223372036854775808 ≤ d) (l4 : d ≤ 9223372036854775807)
    (hn : pickP c 300 = n) (hm : pickP d 50 = m) (hn0 : 0 ≤ n) (hn1 : n < 300) (hm0 : 0 ≤ m) (hm1 : m < 50) (hA : Ints w w.heap.size A la) (hC : Ints w w.heap.size C lc) (hla : la ≤ 9223372036854775807) (hlc : lc ≤ 9223372036854775807) :
    Calls Try.prog 3 #[.int .i64 c, .int .i64 d, .slice A la ca, .slice C lc cc] w fun e w' => e = .returned (.bool true) ∧ Below w.heap.size w w' := by
  have HM := Lib.hid hm
  have HN := Lib.hid hn
  clear hm hn
  go_enter Try.func3, Try.ntmps3
  go_wp2_with (first
    | (go_at_call_of 9 (Value.int IntKind.i64 c); refine (pick_is c 300 n _ l1 l2 (by omega) (by omega) HN.out).mono ?_; rintro e w' ⟨rfl, rfl⟩)
    | (go_at_call_of 9 (Value.int IntKind.i64 d); refine (pick_is d 50 m _ l3 l4 (by omega) (by omega) HM.out).mono ?_; rintro e w' ⟨rfl, rfl⟩)
    | (go_at_call 10; refine (signedOn_ok (2 + n) (1 + m) _ (by omega) (by omega) (by omega) (by omega)).mono ?_; rintro e w1 ⟨b, rfl, hs1⟩))
  go_loopw [12] (fun i wr => ∃ k : Nat, k ≤ la ∧ k ≤ 40 ∧ i = .int .i64 k ∧ Ses w.heap.size w b ⟨2, 2 + n, 1 + m, 3, 0, 0, 0⟩ wr) (fun i _ => 40 - (intOf i).toNat)
  case atStart => exact ⟨0, by omega, by omega, rfl, hs1⟩
  case round =>
    obtain ⟨k, hk0, hk1, rfl, hs⟩ := hrel
    clear hs1
    by_cases hin : k < la ∧ k < 40
    · obtain ⟨i1, i2⟩ := hin
      have i3 : decide ((k : Int) < 40) = true := by simp; omega
      obtain ⟨wo, hwo⟩ : ∃ wo : World, wo = wr := ⟨_, rfl⟩
      rw [← hwo] at hs
      rw [← hwo]
      clear hwo
      obtain ⟨ba, oa, z, rfl, hba, hz0, hz1, hz2⟩ := hA k i1
      obtain ⟨p, hp⟩ : ∃ p, pickP z (2 + n) = p := ⟨_, rfl⟩
      have hp0 : 0 ≤ p := by rw [← hp]; exact pickP_lo _ _ (by omega)
      have hp1 : p < 2 + n := by rw [← hp]; exact pickP_hi _ _ (by omega)
      have HP := Lib.hid hp
      clear hp
      go_wp2
      go_loopw [13] (fun i wr => ∃ j : Int, 0 ≤ j ∧ j ≤ p ∧ i = .int .i64 j ∧ Ses w.heap.size w b ⟨2, 2 + n, 1 + m, 3, 0, j, 0⟩ wr) (fun i _ => (p - intOf i).toNat)
      case atStart => exact ⟨0, by omega, by omega, rfl, hs⟩
      case round =>
        obtain ⟨j, hj0, hj1, rfl, ht⟩ := hrel
        clear hs
        have hzz : wr.cell? ⟨ba, oa + k, none⟩ = some (.int .i64 z) := (ht.2.2.1.cell (p := ⟨ba, oa + k, none⟩) hba).trans hz0
        clear hz0
        by_cases hlt : j < p
        · go_wp2_with (first
            | (go_at_call 9; refine (pick_is z (2 + n) p _ hz1 hz2 (by omega) (by omega) HP.out).mono ?_; rintro e w' ⟨rfl, rfl⟩)
            | (go_at_call 11; refine (tick_ses (s := ⟨2, 2 + n, 1 + m, 3, 0, j, 0⟩) ⟨2, 2 + n, 1 + m, 3, 0, j + 1, 0⟩ { data := #[] } { data := #[] } false ht (by simp [Good]; omega) (quiet_tick n m j (by omega) (by omega)) (quiet_says n m j (by omega) (by omega))).mono ?_; rintro e w2 ⟨rfl, hs2, hg2⟩)
            | (go_at_call 12; refine (nothing_is _ _ _ true _ nothing_quiet).mono ?_; rintro e w3 ⟨rfl, hb3⟩; have hs3 := (hs2.alloc _).call hb3)
            | (go_at_call 13; refine (state_ses 3 hs3 rfl).mono ?_; rintro e w' ⟨rfl, rfl⟩))
          go_roundw
          case rel => exact ⟨j + 1, by omega, by omega, by go_num, hs3⟩
          case measure => simp [intOf]; omega
        · have hh : heardS ⟨2, 2 + n, 1 + m, 3, 0, j, 0⟩ = ⟨2, 2 + n, 1 + m, 3, 0, 0, 0⟩ := by simp [heardS]
          have h301 : askedS ⟨2, 2 + n, 1 + m, 3, 0, j, 0⟩ (ByteArray.toList { data := #[51, 48, 49] }) = ⟨2, 2 + n, 1 + m, 3, 0, 0, 0⟩ := by simp [askedS, heardS, ByteArray.toList_eq]
          have h001 : askedS ⟨2, 2 + n, 1 + m, 3, 0, j, 0⟩ (ByteArray.toList { data := #[48, 48, 49] }) = ⟨2, 2 + n, 1 + m, 3, 0, 0, 0⟩ := by simp [askedS, heardS, ByteArray.toList_eq]
          have ha1 : answeredS ⟨2, 2 + n, 1 + m, 3, 0, j, 0⟩ (ByteArray.toList { data := #[51, 48, 49] }) (ByteArray.toList { data := #[48, 48] }) = ⟨2, 2 + n, 1 + m, 3, 0, 0, 0⟩ := by simp [answeredS, heardS]
          have ha2 : answeredS ⟨2, 2 + n, 1 + m, 3, 0, j, 0⟩ (ByteArray.toList { data := #[120] }) (ByteArray.toList { data := #[] }) = ⟨2, 2 + n, 1 + m, 3, 0, 0, 0⟩ := by simp [answeredS, heardS]
          have HH := Lib.hid hh
          have H3 := Lib.hid h301
          have H1 := Lib.hid h001
          have A1 := Lib.hid ha1
          have A2 := Lib.hid ha2
          clear hh h301 h001 ha1 ha2
          by_cases hw : k < lc
          · obtain ⟨bc, oc, y, rfl, hbc, hy0, hy1, hy2⟩ := hC k hw
            have hyy : wr.cell? ⟨bc, oc + k, none⟩ = some (.int .i64 y) := (ht.2.2.1.cell (p := ⟨bc, oc + k, none⟩) hbc).trans hy0
            clear hy0
            obtain ⟨q, hq⟩ : ∃ q, pickP y 5 = q := ⟨_, rfl⟩
            have hq0 : 0 ≤ q := by rw [← hq]; exact pickP_lo _ _ (by omega)
            have hq1 : q < 5 := by rw [← hq]; exact pickP_hi _ _ (by omega)
            have hq5 : q = 0 ∨ q = 1 ∨ q = 2 ∨ q = 3 ∨ q = 4 := by omega
            clear hq0 hq1
            rcases hq5 with rfl | rfl | rfl | rfl | rfl
            all_goals
              have HQ := Lib.hid hq
              clear hq
              go_wp2_with (first
                | (go_at_call_of 9 (Value.int IntKind.i64 z); refine (pick_is z (2 + n) p _ hz1 hz2 (by omega) (by omega) HP.out).mono ?_; rintro e w' ⟨rfl, rfl⟩)
                | (go_at_call_of 9 (Value.int IntKind.i64 y); refine (pick_is y 5 _ _ hy1 hy2 (by omega) (by omega) HQ.out).mono ?_; rintro e w' ⟨rfl, rfl⟩)
                | (go_at_call 14; refine (heard_ses _ ht HH.out).mono ?_; rintro e w4 ⟨rfl, hs4, hg4⟩)
                | (go_at_call_of 15 (Value.string { data := #[51, 48, 49] }); refine (asked_ses _ _ _ _ _ ht (.inr rfl) H3.out rfl).mono ?_; rintro e w4 ⟨rfl, hs4, hg4⟩)
                | (go_at_call_of 15 (Value.string { data := #[48, 48, 49] }); refine (asked_ses _ _ _ _ _ ht (.inr rfl) H1.out rfl).mono ?_; rintro e w4 ⟨rfl, hs4, hg4⟩)
                | (go_at_call_of 16 (Value.string { data := #[51, 48, 49] }); refine (answered_ses _ _ _ ht A1.out).mono ?_; rintro e w4 ⟨rfl, hs4, hg4⟩)
                | (go_at_call_of 16 (Value.string { data := #[120] }); refine (answered_ses _ _ _ ht A2.out).mono ?_; rintro e w4 ⟨rfl, hs4, hg4⟩)
                | (go_at_call 13; refine (state_ses 3 hs4 rfl).mono ?_; rintro e w' ⟨rfl, rfl⟩))
              go_roundw
              case rel => exact ⟨k + 1, by omega, by omega, by go_num, hs4⟩
              case measure => simp [intOf]; omega
          · go_wp2_with (first
              | (go_at_call 9; refine (pick_is z (2 + n) p _ hz1 hz2 (by omega) (by omega) HP.out).mono ?_; rintro e w' ⟨rfl, rfl⟩)
              | (go_at_call 14; refine (heard_ses _ ht HH.out).mono ?_; rintro e w4 ⟨rfl, hs4, hg4⟩)
              | (go_at_call 13; refine (state_ses 3 hs4 rfl).mono ?_; rintro e w' ⟨rfl, rfl⟩))
            go_roundw
            case rel => exact ⟨k + 1, by omega, by omega, by go_num, hs4⟩
            case measure => simp [intOf]; omega
    · have hend : la ≤ k ∨ 40 ≤ k := by omega
      clear hin
      rcases hend with hend | hend
      · have hnn : ¬ k < la := by omega
        go_wp2
        go_loopw [17] (fun i wr => ∃ k : Int, 1 ≤ k ∧ k ≤ 2 + n + 1 ∧ i = .int .i64 k ∧ Ses w.heap.size w b (lostS (2 + n) (1 + m) (k - 1)) wr) (fun i _ => (2 + n + 1 - intOf i).toNat)
        case atStart => exact ⟨1, by omega, by omega, rfl, by rw [show lostS (2 + n) (1 + m) (1 - 1) = ⟨2, 2 + n, 1 + m, 3, 0, 0, 0⟩ by unfold lostS; rw [if_pos (by omega)]; rfl]; exact hs⟩
        case round =>
          obtain ⟨i, hi0, hi1, rfl, hs⟩ := hrel
          by_cases hout : 2 + n < i
          · have HS : Hid (lostS (2 + n) (1 + m) (i - 1) = ⟨2, 2 + n, 1 + m, 4, 0, 2 + n, 1⟩) := by
              show _ = _
              have e : i - 1 = 2 + n := by omega
              rw [e]; unfold lostS; rw [if_neg (by omega), if_pos (by omega), Int.sub_self]
            rw [HS.out] at hs
            go_wp2_with fail
            refine (state_ses 4 hs rfl).mono ?_
            rintro e w' ⟨rfl, rfl⟩
            go_wp2_with fail
            refine (heard_ses ⟨2, 2 + n, 1 + m, 4, 0, 2 + n, 1⟩ hs (by simp [heardS])).mono ?_
            rintro e w2 ⟨rfl, hs2, hg2⟩
            go_wp2_with fail
            refine (asked_ses _ ⟨2, 2 + n, 1 + m, 4, 0, 2 + n, 1⟩ _ _ _ hs2 (.inr rfl) (by simp [askedS, heardS, ByteArray.toList_eq]) rfl).mono ?_
            rintro e w3 ⟨rfl, hs3, hg3⟩
            go_wp2_with fail
            refine (answered_ses _ _ ⟨2, 2 + n, 1 + m, 4, 0, 2 + n, 1⟩ hs3 (by simp [answeredS, heardS, ByteArray.toList_eq])).mono ?_
            rintro e w4 ⟨rfl, hs4, hg4⟩
            go_wp2_with fail
            refine (state_ses 4 hs4 rfl).mono ?_
            rintro e w' ⟨rfl, rfl⟩
            go_wp2_with fail
            refine (answered_ses _ _ ⟨2, 2 + n, 1 + m, 3, 0, 0, 1⟩ hs4 (by simp [answeredS, heardS, ByteArray.toList_eq])).mono ?_
            rintro e w5 ⟨rfl, hs5, hg5⟩
            go_wp2_with fail
            refine (state_ses 3 hs5 rfl).mono ?_
            rintro e w' ⟨rfl, rfl⟩
            go_wp2
            go_ret
            exact ⟨rfl, hs5.2.2.1⟩
          · have hlg := lost_good (2 + n) (1 + m) (i - 1) (by omega) (by omega) (by omega) (by omega) (by omega)
            have htk : tickS (lostS (2 + n) (1 + m) (i - 1)) = lostS (2 + n) (1 + m) i := (lost_tick (2 + n) (1 + m) (i - 1) (by omega) (by omega) (by omega) (by omega)).trans (by rw [Int.sub_add_cancel])
            have hsy : tickY (lostS (2 + n) (1 + m) (i - 1)) = lostY (2 + n) (1 + m) i := (lost_says (2 + n) (1 + m) (i - 1) (by omega) (by omega) (by omega) (by omega)).trans (by rw [Int.sub_add_cancel])
            by_cases hc : i = 2 + n
            · have hY : lostY (2 + n) (1 + m) i = ⟨{ data := #[51, 48, 49] }, { data := #[] }, false⟩ := by unfold lostY; rw [if_pos (by omega)]
              rw [hY] at hsy
              subst hc
              have HT := Lib.hid htk
              have HSY := Lib.hid hsy
              clear htk hsy hY
              go_wp2_with (first
                | (go_at_call 11; refine (tick_ses _ _ _ _ hs hlg HT.out HSY.out).mono ?_; rintro e w2 ⟨rfl, hs2, hg2⟩)
                | (go_at_call 12; refine (nothing_is _ _ _ false _ nothing_301).mono ?_; rintro e w3 ⟨rfl, hb3⟩; have hs3 := (hs2.alloc _).call hb3; have hX : Blk w3 w2.heap.size 27 #[.string { data := #[51, 48, 49] }, .string { data := #[] }, .bool false] := (Blk.new w2 27 _).below hb3 (by simp); have d0 := hX.cell 0; have d1 := hX.cell 1; have d2 := hX.cell 2; simp at d0 d1 d2; clear hX)
                | (go_at_call 17; refine (asks_is _ _ _ _ true _ asks_301).mono ?_; rintro e w4 ⟨rfl, hb4⟩; have hs4 := hs3.call hb4))
              go_roundw
              case rel => exact ⟨2 + n + 1, by omega, by omega, by go_num, by rw [Int.add_sub_cancel]; exact hs4⟩
              case measure => simp [intOf]; omega
            · have hY : lostY (2 + n) (1 + m) i = ⟨{ data := #[] }, { data := #[] }, false⟩ := by unfold lostY; rw [if_neg (by omega), if_neg (by omega)]
              rw [hY] at hsy
              have e1 : ((i : Int) == 2 + n) = false := by rw [beq_eq_false_iff_ne]; omega
              have b1 : i < 2 + n := by omega
              have HT := Lib.hid htk
              have HSY := Lib.hid hsy
              clear htk hsy hY hc
              go_wp2_with (first
                | (go_at_call 11; refine (tick_ses _ _ _ _ hs hlg HT.out HSY.out).mono ?_; rintro e w2 ⟨rfl, hs2, hg2⟩)
                | (go_at_call 12; refine (nothing_is _ _ _ true _ nothing_quiet).mono ?_; rintro e w3 ⟨rfl, hb3⟩; have hs3 := (hs2.alloc _).call hb3))
              go_roundw
              case rel => exact ⟨i + 1, by omega, by omega, by go_num, by rw [Int.add_sub_cancel]; exact hs3⟩
              case measure => simp [intOf]; omega
      · have hn40 : ¬ k < 40 := by omega
        by_cases hnn : k < la
        · go_wp2
          go_loopw [17] (fun i wr => ∃ k : Int, 1 ≤ k ∧ k ≤ 2 + n + 1 ∧ i = .int .i64 k ∧ Ses w.heap.size w b (lostS (2 + n) (1 + m) (k - 1)) wr) (fun i _ => (2 + n + 1 - intOf i).toNat)
          case atStart => exact ⟨1, by omega, by omega, rfl, by rw [show lostS (2 + n) (1 + m) (1 - 1) = ⟨2, 2 + n, 1 + m, 3, 0, 0, 0⟩ by unfold lostS; rw [if_pos (by omega)]; rfl]; exact hs⟩
          case round =>
            obtain ⟨i, hi0, hi1, rfl, hs⟩ := hrel
            by_cases hout : 2 + n < i
            · have HS : Hid (lostS (2 + n) (1 + m) (i - 1) = ⟨2, 2 + n, 1 + m, 4, 0, 2 + n, 1⟩) := by
                show _ = _
                have e : i - 1 = 2 + n := by omega
                rw [e]; unfold lostS; rw [if_neg (by omega), if_pos (by omega), Int.sub_self]
              rw [HS.out] at hs
              go_wp2_with fail
              refine (state_ses 4 hs rfl).mono ?_
              rintro e w' ⟨rfl, rfl⟩
              go_wp2_with fail
              refine (heard_ses ⟨2, 2 + n, 1 + m, 4, 0, 2 + n, 1⟩ hs (by simp [heardS])).mono ?_
              rintro e w2 ⟨rfl, hs2, hg2⟩
              go_wp2_with fail
              refine (asked_ses _ ⟨2, 2 + n, 1 + m, 4, 0, 2 + n, 1⟩ _ _ _ hs2 (.inr rfl) (by simp [askedS, heardS, ByteArray.toList_eq]) rfl).mono ?_
              rintro e w3 ⟨rfl, hs3, hg3⟩
              go_wp2_with fail
              refine (answered_ses _ _ ⟨2, 2 + n, 1 + m, 4, 0, 2 + n, 1⟩ hs3 (by simp [answeredS, heardS, ByteArray.toList_eq])).mono ?_
              rintro e w4 ⟨rfl, hs4, hg4⟩
              go_wp2_with fail
              refine (state_ses 4 hs4 rfl).mono ?_
              rintro e w' ⟨rfl, rfl⟩
              go_wp2_with fail
              refine (answered_ses _ _ ⟨2, 2 + n, 1 + m, 3, 0, 0, 1⟩ hs4 (by simp [answeredS, heardS, ByteArray.toList_eq])).mono ?_
              rintro e w5 ⟨rfl, hs5, hg5⟩
              go_wp2_with fail
              refine (state_ses 3 hs5 rfl).mono ?_
              rintro e w' ⟨rfl, rfl⟩
              go_wp2
              go_ret
              exact ⟨rfl, hs5.2.2.1⟩
            · have hlg := lost_good (2 + n) (1 + m) (i - 1) (by omega) (by omega) (by omega) (by omega) (by omega)
              have htk : tickS (lostS (2 + n) (1 + m) (i - 1)) = lostS (2 + n) (1 + m) i := (lost_tick (2 + n) (1 + m) (i - 1) (by omega) (by omega) (by omega) (by omega)).trans (by rw [Int.sub_add_cancel])
              have hsy : tickY (lostS (2 + n) (1 + m) (i - 1)) = lostY (2 + n) (1 + m) i := (lost_says (2 + n) (1 + m) (i - 1) (by omega) (by omega) (by omega) (by omega)).trans (by rw [Int.sub_add_cancel])
              by_cases hc : i = 2 + n
              · have hY : lostY (2 + n) (1 + m) i = ⟨{ data := #[51, 48, 49] }, { data := #[] }, false⟩ := by unfold lostY; rw [if_pos (by omega)]
                rw [hY] at hsy
                subst hc
                have HT := Lib.hid htk
                have HSY := Lib.hid hsy
                clear htk hsy hY
                go_wp2_with (first
                  | (go_at_call 11; refine (tick_ses _ _ _ _ hs hlg HT.out HSY.out).mono ?_; rintro e w2 ⟨rfl, hs2, hg2⟩)
                  | (go_at_call 12; refine (nothing_is _ _ _ false _ nothing_301).mono ?_; rintro e w3 ⟨rfl, hb3⟩; have hs3 := (hs2.alloc _).call hb3; have hX : Blk w3 w2.heap.size 27 #[.string { data := #[51, 48, 49] }, .string { data := #[] }, .bool false] := (Blk.new w2 27 _).below hb3 (by simp); have d0 := hX.cell 0; have d1 := hX.cell 1; have d2 := hX.cell 2; simp at d0 d1 d2; clear hX)
                  | (go_at_call 17; refine (asks_is _ _ _ _ true _ asks_301).mono ?_; rintro e w4 ⟨rfl, hb4⟩; have hs4 := hs3.call hb4))
                go_roundw
                case rel => exact ⟨2 + n + 1, by omega, by omega, by go_num, by rw [Int.add_sub_cancel]; exact hs4⟩
                case measure => simp [intOf]; omega
              · have hY : lostY (2 + n) (1 + m) i = ⟨{ data := #[] }, { data := #[] }, false⟩ := by unfold lostY; rw [if_neg (by omega), if_neg (by omega)]
                rw [hY] at hsy
                have e1 : ((i : Int) == 2 + n) = false := by rw [beq_eq_false_iff_ne]; omega
                have b1 : i < 2 + n := by omega
                have HT := Lib.hid htk
                have HSY := Lib.hid hsy
                clear htk hsy hY hc
                go_wp2_with (first
                  | (go_at_call 11; refine (tick_ses _ _ _ _ hs hlg HT.out HSY.out).mono ?_; rintro e w2 ⟨rfl, hs2, hg2⟩)
                  | (go_at_call 12; refine (nothing_is _ _ _ true _ nothing_quiet).mono ?_; rintro e w3 ⟨rfl, hb3⟩; have hs3 := (hs2.alloc _).call hb3))
                go_roundw
                case rel => exact ⟨i + 1, by omega, by omega, by go_num, by rw [Int.add_sub_cancel]; exact hs3⟩
                case measure => simp [intOf]; omega
        · go_wp2
          go_loopw [17] (fun i wr => ∃ k : Int, 1 ≤ k ∧ k ≤ 2 + n + 1 ∧ i = .int .i64 k ∧ Ses w.heap.size w b (lostS (2 + n) (1 + m) (k - 1)) wr) (fun i _ => (2 + n + 1 - intOf i).toNat)
          case atStart => exact ⟨1, by omega, by omega, rfl, by rw [show lostS (2 + n) (1 + m) (1 - 1) = ⟨2, 2 + n, 1 + m, 3, 0, 0, 0⟩ by unfold lostS; rw [if_pos (by omega)]; rfl]; exact hs⟩
          case round =>
            obtain ⟨i, hi0, hi1, rfl, hs⟩ := hrel
            by_cases hout : 2 + n < i
            · have HS : Hid (lostS (2 + n) (1 + m) (i - 1) = ⟨2, 2 + n, 1 + m, 4, 0, 2 + n, 1⟩) := by
                show _ = _
                have e : i - 1 = 2 + n := by omega
                rw [e]; unfold lostS; rw [if_neg (by omega), if_pos (by omega), Int.sub_self]
              rw [HS.out] at hs
              go_wp2_with fail
              refine (state_ses 4 hs rfl).mono ?_
              rintro e w' ⟨rfl, rfl⟩
              go_wp2_with fail
              refine (heard_ses ⟨2, 2 + n, 1 + m, 4, 0, 2 + n, 1⟩ hs (by simp [heardS])).mono ?_
              rintro e w2 ⟨rfl, hs2, hg2⟩
              go_wp2_with fail
              refine (asked_ses _ ⟨2, 2 + n, 1 + m, 4, 0, 2 + n, 1⟩ _ _ _ hs2 (.inr rfl) (by simp [askedS, heardS, ByteArray.toList_eq]) rfl).mono ?_
              rintro e w3 ⟨rfl, hs3, hg3⟩
              go_wp2_with fail
              refine (answered_ses _ _ ⟨2, 2 + n, 1 + m, 4, 0, 2 + n, 1⟩ hs3 (by simp [answeredS, heardS, ByteArray.toList_eq])).mono ?_
              rintro e w4 ⟨rfl, hs4, hg4⟩
              go_wp2_with fail
              refine (state_ses 4 hs4 rfl).mono ?_
              rintro e w' ⟨rfl, rfl⟩
              go_wp2_with fail
              refine (answered_ses _ _ ⟨2, 2 + n, 1 + m, 3, 0, 0, 1⟩ hs4 (by simp [answeredS, heardS, ByteArray.toList_eq])).mono ?_
              rintro e w5 ⟨rfl, hs5, hg5⟩
              go_wp2_with fail
              refine (state_ses 3 hs5 rfl).mono ?_
              rintro e w' ⟨rfl, rfl⟩
              go_wp2
              go_ret
              exact ⟨rfl, hs5.2.2.1⟩
            · have hlg := lost_good (2 + n) (1 + m) (i - 1) (by omega) (by omega) (by omega) (by omega) (by omega)
              have htk : tickS (lostS (2 + n) (1 + m) (i - 1)) = lostS (2 + n) (1 + m) i := (lost_tick (2 + n) (1 + m) (i - 1) (by omega) (by omega) (by omega) (by omega)).trans (by rw [Int.sub_add_cancel])
              have hsy : tickY (lostS (2 + n) (1 + m) (i - 1)) = lostY (2 + n) (1 + m) i := (lost_says (2 + n) (1 + m) (i - 1) (by omega) (by omega) (by omega) (by omega)).trans (by rw [Int.sub_add_cancel])
              by_cases hc : i = 2 + n
              · have hY : lostY (2 + n) (1 + m) i = ⟨{ data := #[51, 48, 49] }, { data := #[] }, false⟩ := by unfold lostY; rw [if_pos (by omega)]
                rw [hY] at hsy
                subst hc
                have HT := Lib.hid htk
                have HSY := Lib.hid hsy
                clear htk hsy hY
                go_wp2_with (first
                  | (go_at_call 11; refine (tick_ses _ _ _ _ hs hlg HT.out HSY.out).mono ?_; rintro e w2 ⟨rfl, hs2, hg2⟩)
                  | (go_at_call 12; refine (nothing_is _ _ _ false _ nothing_301).mono ?_; rintro e w3 ⟨rfl, hb3⟩; have hs3 := (hs2.alloc _).call hb3; have hX : Blk w3 w2.heap.size 27 #[.string { data := #[51, 48, 49] }, .string { data := #[] }, .bool false] := (Blk.new w2 27 _).below hb3 (by simp); have d0 := hX.cell 0; have d1 := hX.cell 1; have d2 := hX.cell 2; simp at d0 d1 d2; clear hX)
                  | (go_at_call 17; refine (asks_is _ _ _ _ true _ asks_301).mono ?_; rintro e w4 ⟨rfl, hb4⟩; have hs4 := hs3.call hb4))
                go_roundw
                case rel => exact ⟨2 + n + 1, by omega, by omega, by go_num, by rw [Int.add_sub_cancel]; exact hs4⟩
                case measure => simp [intOf]; omega
              · have hY : lostY (2 + n) (1 + m) i = ⟨{ data := #[] }, { data := #[] }, false⟩ := by unfold lostY; rw [if_neg (by omega), if_neg (by omega)]
                rw [hY] at hsy
                have e1 : ((i : Int) == 2 + n) = false := by rw [beq_eq_false_iff_ne]; omega
                have b1 : i < 2 + n := by omega
                have HT := Lib.hid htk
                have HSY := Lib.hid hsy
                clear htk hsy hY hc
                go_wp2_with (first
                  | (go_at_call 11; refine (tick_ses _ _ _ _ hs hlg HT.out HSY.out).mono ?_; rintro e w2 ⟨rfl, hs2, hg2⟩)
                  | (go_at_call 12; refine (nothing_is _ _ _ true _ nothing_quiet).mono ?_; rintro e w3 ⟨rfl, hb3⟩; have hs3 := (hs2.alloc _).call hb3))
                go_roundw
                case rel => exact ⟨i + 1, by omega, by omega, by go_num, by rw [Int.add_sub_cancel]; exact hs3⟩
                case measure => simp [intOf]; omega

def IsRow (k : IntKind) (w : World) (a : Option Addr) (len cap : Nat) (zs : List Int) : Prop :=
  (a = none ∧ len = 0 ∧ cap = 0 ∧ zs = []) ∨
  ∃ x, a = some x ∧ len ≤ cap ∧ cap ≤ maxLen ∧ zs.length = cap ∧ (∀ i, i < zs.length → w.cell? (x.add i) = some (.int k (zs.getD i 0))) ∧ ∀ n ∈ zs, (Lit.int k n).wf = true
theorem IsRow.len {k : IntKind} {w : World} {a : Option Addr} {len cap : Nat} {zs : List Int} (h : IsRow k w a len cap zs) : len ≤ 9223372036854775807 := by
  rcases h with ⟨_, h, _, _⟩ | ⟨x, _, h, hc, _⟩
  · omega
  · unfold maxLen at hc; omega
theorem IsRow.ints {w : World} {a : Option Addr} {len cap : Nat} {zs : List Int} (h : IsRow .i64 w a len cap zs) : Ints w w.heap.size a len := by
  intro k hk
  rcases h with ⟨_, h, _, _⟩ | ⟨x, rfl, hl, hm, hz, hc, hw⟩
  · omega
  · obtain ⟨b, off, spot⟩ := x
    have h0 := hc k (by omega)
    have hs : spot = none := by simpa [Addr.add] using World.cell?_spot (hc 0 (by omega))
    subst hs
    have e : (⟨b, off, none⟩ : Addr).add k = ⟨b, off + k, none⟩ := by unfold Addr.add; split <;> simp_all
    rw [e] at h0
    have hwf := hw (zs.getD k 0) (by rw [List.getD_eq_getElem?_getD, List.getElem?_eq_getElem (by omega)]; exact List.getElem_mem _)
    have hmin : IntKind.i64.min = -9223372036854775808 := rfl
    have hmax : IntKind.i64.max = 9223372036854775807 := rfl
    simp only [Lit.wf, Bool.and_eq_true, decide_eq_true_eq] at hwf
    exact ⟨b, off, zs.getD k 0, rfl, World.block_lt_of_cell? w _ h0, h0, by omega, by omega⟩

theorem quiet_walk (c : Int) (l1 : -9223372036854775808 ≤ c) (l2 : c ≤ 9223372036854775807) (d : Int) (l3 : -9223372036854775808 ≤ d) (l4 : d ≤ 9223372036854775807)
    (A : Option Addr) (la ca : Nat) (zs : List Int) (w : World) (hA : IsRow .i64 w A la ca zs) (C : Option Addr) (lc cc : Nat) (ys : List Int) (hC : IsRow .i64 w C lc cc ys) :
    Calls Try.prog 3 #[.int .i64 c, .int .i64 d, .slice A la ca, .slice C lc cc] w fun e w' => e = .returned (.bool true) ∧ Below w.heap.size w w' :=
  quiet_some c d _ _ A C la ca lc cc w l1 l2 l3 l4 rfl rfl (pickP_lo _ _ (by omega)) (pickP_hi _ _ (by omega)) (pickP_lo _ _ (by omega)) (pickP_hi _ _ (by omega)) hA.ints hC.ints hA.len hC.len
end Go.Proofs.Ytcdikjomiomnpaa
