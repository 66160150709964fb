/-
  Of by its contract; the chapter's example.
-/
import Derived.Test.YtieloocmkgficaaEnc
namespace Go.Proofs.Ytieloocmkgficaa
open Go.RowKit
set_option linter.unusedVariables false
set_option linter.unusedSimpArgs false
def ofGo : List Int → B64 → B64 → B64 × B64 × Int
  | [], F, S => (F, S, 0)
  | z :: zs, F, S => if fldB z = true then ofGo zs (F ||| oF z) (S ||| oS z) else (0#64, 0#64, 1)
theorem ofGo_step (zs : List Int) (k : Nat) (F S : B64) (h : k < zs.length) : ofGo (zs.drop k) F S = if fldB (zs.getD k 0) = true then ofGo (zs.drop (k + 1)) (F ||| oF (zs.getD k 0)) (S ||| oS (zs.getD k 0)) else (0#64, 0#64, 1) := by
  rw [List.drop_eq_getElem_cons h]
  simp only [ofGo, List.getD, List.getElem?_eq_getElem h, Option.getD_some]
theorem of_ret (F S : B64) (e : Int) (r : B64 × B64 × Int) (h : r = (F, S, e)) : Ending.returned (.tuple #[.agg #[.int .u64 (iv F), .int .u64 (iv S)], .int .i64 e]) = Ending.returned (.tuple #[.agg #[.int .u64 (iv r.1), .int .u64 (iv r.2.1)], .int .i64 r.2.2]) := by rw [h]
set_option maxHeartbeats 1000000 in
theorem of_nil (a : Option Addr) (c : Nat) (w : World) : Calls Try.prog 21 #[.slice a 0 c] w fun e w' => e = .returned (.tuple #[.agg #[.int .u64 (iv 0#64), .int .u64 (iv 0#64)], .int .i64 0]) ∧ Below w.heap.size w w' := by
  go_enter Try.func21, Try.ntmps21
  go_wp2
  refine wp_loop_rounds 1 ?_
  rw [rounds_succ]
  go_wp2
  exact ret_map2 rfl rfl ((Blk.new w _ _).alloc _) rfl ⟨rfl, below2 _ _ _⟩
set_option maxHeartbeats 1000000 in
theorem of_some (b off c : Nat) (zs : List Int) (w : World) (hn : zs.length ≤ 9223372036854775807) (hb : b < w.heap.size) (hc : ∀ i, i < zs.length → w.cell? ⟨b, off + i, none⟩ = some (.int .i64 (zs.getD i 0))) :
    Calls Try.prog 21 #[.slice (some ⟨b, off, none⟩) zs.length c] w fun e w' => e = .returned (.tuple #[.agg #[.int .u64 (iv (ofGo zs 0#64 0#64).1), .int .u64 (iv (ofGo zs 0#64 0#64).2.1)], .int .i64 (ofGo zs 0#64 0#64).2.2]) ∧ Below w.heap.size w w' := by
  obtain ⟨n, hnl⟩ : ∃ n, zs.length = n := ⟨_, rfl⟩
  rw [hnl] at hn hc ⊢
  have HN := Lib.hid hnl
  have HC := Lib.hid hc
  clear hnl hc
  have z : iv 0#64 = 0 := rfl
  go_enter Try.func21, Try.ntmps21
  go_wp2
  go_loopw [10] (fun i wr => ∃ (k : Nat) (F S : B64), k ≤ n ∧ i = .int .i64 k ∧ Blk wr w.heap.size 24 #[.int .u64 0, .int .u64 0] ∧ Blk wr (w.heap.size + 1) 24 #[.int .u64 (iv F), .int .u64 (iv S)] ∧ Below w.heap.size w wr ∧ Hid (ofGo (zs.drop k) F S = ofGo zs 0#64 0#64)) (fun i _ => n - (intOf i).toNat)
  case atStart => exact ⟨0, 0#64, 0#64, by omega, rfl, (Blk.new w _ _).alloc _, Blk.new2 _ _ _ _, below2 _ _ _, Lib.hid rfl⟩
  case round =>
    obtain ⟨k, F, S, hk, rfl, hX, hY, hB, hR⟩ := hrel
    have hs1 : w.heap.size < wr.heap.size := hX.lt
    have hs2 : w.heap.size + 1 < wr.heap.size := hY.lt
    by_cases hlt : k < n
    · have hcx : wr.cell? ⟨b, off + k, none⟩ = some (.int .i64 (zs.getD k 0)) := (hB.cell (p := ⟨b, off + k, none⟩) hb).trans (HC.out k hlt)
      have hst := Lib.hid (ofGo_step zs k F S (by rw [HN.out]; exact hlt))
      obtain ⟨x, hx⟩ : ∃ x, zs.getD k 0 = x := ⟨_, rfl⟩
      rw [hx] at hcx hst
      clear hx
      have x0 := hX.cell 0
      have x1 := hX.cell 1
      have xf0 := hX.frozen 0
      have xf1 := hX.frozen 1
      simp at x0 x1
      cases hf : fldB x
      · have HF := Lib.hid hf
        have HX := Lib.hid hX
        clear hX hY hf
        go_wp2_with (go_at_call 42; refine (field_any _ _).mono ?_; rintro e w' ⟨rfl, rfl⟩; rw [HF.out])
        refine ret_map2 rfl rfl (HX.out.store2 _ _) rfl ⟨of_ret 0#64 0#64 1 _ ?_, below_store2 hB (by omega) _ _⟩
        rw [← hR.out, hst.out, HF.out]; rfl
      · obtain ⟨l0, l1⟩ := fld_bd hf
        have HF := Lib.hid hf
        have HX := Lib.hid hX
        have HY := Lib.hid hY
        have L0 := Lib.hid l0
        have L1 := Lib.hid l1
        have B1 := bits_or F (oF x)
        have B2 := bits_or S (oS x)
        clear hX hY hf x0 x1 xf0 xf1 l0 l1
        go_wp2_with (first
          | (go_at_call 42; refine (field_any _ _).mono ?_; rintro e w' ⟨rfl, rfl⟩; rw [HF.out])
          | (go_at_call 43; refine (one_any _ _ L0.out L1.out).mono ?_; rintro e w2 ⟨rfl, hb2⟩; have hX := HX.out.below hb2 hs1; have hY := HY.out.below hb2 hs2; have y0 := hY.cell 0; have y1 := hY.cell 1; have yf0 := hY.frozen 0; have yf1 := hY.frozen 1; have hs3 : w.heap.size < w2.heap.size := hX.lt; have hs4 : w.heap.size + 1 < w2.heap.size := hY.lt; simp at y0 y1; have HX2 := Lib.hid hX; have HY2 := Lib.hid hY; have hB2 := Lib.hid (hB.trans (hb2.mono hB.size)); clear hX hY hb2))
        go_roundw
        case rel =>
          refine ⟨k + 1, F ||| oF x, S ||| oS x, by omega, by go_num, (((HX2.out.far_ (by omega) _).far_ (by omega) _).alloc _), ((HY2.out.store2 _ _).alloc _), (below_store2 hB2.out (by omega) _ _).alloc (by simp; omega) _, Lib.hid ?_⟩
          rw [← hR.out, hst.out, HF.out]; rfl
        case measure => simp [intOf]; omega
    · have y0 := hY.cell 0
      have y1 := hY.cell 1
      have x0 := hX.cell 0
      have x1 := hX.cell 1
      have xf0 := hX.frozen 0
      have xf1 := hX.frozen 1
      simp at x0 x1 y0 y1
      have HX := Lib.hid hX
      clear hX hY
      have hR2 : Hid (ofGo zs 0#64 0#64 = (F, S, 0)) := by
        show _ = _
        rw [← hR.out, List.drop_eq_nil_of_le (by rw [HN.out]; omega)]; rfl
      go_wp2
      exact ret_map2 rfl rfl (HX.out.store2 _ _) rfl ⟨of_ret F S 0 _ hR2.out, below_store2 hB (by omega) _ _⟩
end Go.Proofs.Ytieloocmkgficaa
