/-
  Rows of 129 truths: in memory, of a map, and back.
-/
import Derived.Test.YtieloocmkgficaaEx
import Derived.Laws.Tables
namespace Go.Proofs.Ytieloocmkgficaa
open Go.RowKit
set_option linter.unusedVariables false
set_option linter.unusedSimpArgs false
/-- A row's cells. -/
def rowA (r : List Bool) : Array Value := (r.map Value.bool).toArray
theorem rowA_size (r : List Bool) : (rowA r).size = r.length := by simp [rowA]
theorem rowA_get (r : List Bool) (k : Nat) (h : k < r.length) : (rowA r)[k]? = some (.bool (r.getD k false)) := by
  simp [rowA, List.getElem?_eq_getElem h]
theorem rowA_set (r : List Bool) (k : Nat) (b : Bool) : (rowA r).setIfInBounds k (.bool b) = rowA (r.set k b) := by
  simp [rowA, List.map_set]
theorem info40 : (Try.prog.info? 40).map (·.size) = some 129 := by kernel_rfl
def zeros : List Bool := List.replicate 129 false
theorem zero40 (w : World) : (zeroValue 40).run Try.prog w = .ok (.agg (rowA zeros)) w := by kernel_rfl
theorem load40 {W : World} {g : Nat} {r : List Bool} (h : Blk W g 40 (rowA r)) (hr : r.length = 129) : (Instr.loadAt 40 (.pointer (some ⟨g, 0, none⟩))).run Try.prog W = .ok (.agg (rowA r)) W := by
  simp only [Instr.loadAt, Instr.sureAddr, Sem.run_bind, Sem.run_pure, Result.andThen_ok, run_loadVar_row W g 40 40 (rowA r) (0, 0) _ h Try.underlying40 rfl (by rw [info40, rowA_size, hr])]
theorem rowA_one (r : List Bool) : (rowA r).all (·.oneCell') = true := by
  rw [Array.all_eq_true_iff_forall_mem]
  intro v hv
  simp only [rowA, List.mem_toArray, List.mem_map] at hv
  obtain ⟨b, _, rfl⟩ := hv
  rfl
theorem store40 {W : World} {g : Nat} {r q : List Bool} (h : Blk W g 40 (rowA q)) (hq : q.length = 129) (hr : r.length = 129) : (Instr.storeAt 40 (.pointer (some ⟨g, 0, none⟩)) (.agg (rowA r))).run Try.prog W = .ok () (W.setRow g (rowA r)) := by
  simp [Instr.storeAt, Instr.sureAddr, Sem.run_bind, Sem.run_pure, Result.andThen_ok, run_storeVar_row W g 40 40 (rowA q) (rowA r) h (by rw [info40, rowA_size, hr]) (by rw [rowA_size, rowA_size, hq, hr]) (rowA_one r)]
theorem Blk.setRow {W : World} {g : Nat} {r q : List Bool} (h : Blk W g 40 (rowA q)) : Blk (W.setRow g (rowA r)) g 40 (rowA r) := by
  unfold Blk at h ⊢
  simp [World.setRow, Array.getElem?_modify, h]
theorem Blk.setRow_far {W : World} {g b : Nat} {t : TypeId} {cs c : Array Value} (h : Blk W g t cs) (hne : b ≠ g) : Blk (W.setRow b c) g t cs := by
  unfold Blk at h ⊢
  simp only [World.setRow, Array.getElem?_modify]
  rw [if_neg hne]; exact h
theorem below_setRow {B : Nat} {a W : World} {g : Nat} {c : Array Value} (h : Below B a W) (hg : B ≤ g) : Below B a (W.setRow g c) := by
  refine ⟨h.os, h.tape, h.output, by simpa [World.setRow] using h.size, fun i hi => ?_⟩
  have := h.block i hi
  simp only [World.setRow, Array.getElem?_modify]
  rw [if_neg (by omega)]; exact this
theorem setRow_size (W : World) (g : Nat) (c : Array Value) : (W.setRow g c).heap.size = W.heap.size := by simp [World.setRow]
def rowK (F S : B64) (k : Nat) : List Bool := (List.range 129).map (fun i => if 1 ≤ i ∧ i < k then F.getLsbD (64 - i) else if 65 ≤ i ∧ i < 64 + k then S.getLsbD (128 - i) else false)
def rowOf (F S : B64) : List Bool := rowK F S 65
theorem rowK_len (F S : B64) (k : Nat) : (rowK F S k).length = 129 := by simp [rowK]
theorem rowK_one (F S : B64) : rowK F S 1 = zeros := by
  apply List.ext_getElem
  · simp [rowK, zeros]
  · intro i h1 h2
    simp only [rowK, zeros, List.getElem_map, List.getElem_range, List.getElem_replicate]
    rw [if_neg (by omega), if_neg (by omega)]
theorem rowK_step (F S : B64) (k : Nat) (h1 : 1 ≤ k) (h2 : k ≤ 64) : ((rowK F S k).set k (F.getLsbD (64 - k))).set (64 + k) (S.getLsbD (64 - k)) = rowK F S (k + 1) := by
  apply List.ext_getElem
  · simp [rowK]
  · intro i g1 g2
    simp only [List.getElem_set]
    simp only [rowK, List.getElem_map, List.getElem_range]
    by_cases e1 : 64 + k = i
    · subst e1
      rw [if_pos rfl, if_neg (by omega), if_pos (by omega), show 128 - (64 + k) = 64 - k by omega]
    · rw [if_neg e1]
      by_cases e2 : k = i
      · subst e2
        rw [if_pos rfl, if_pos (by omega)]
      · rw [if_neg e2]
        by_cases c1 : 1 ≤ i ∧ i < k
        · rw [if_pos c1, if_pos (show 1 ≤ i ∧ i < k + 1 by omega)]
        · rw [if_neg c1, if_neg (show ¬(1 ≤ i ∧ i < k + 1) by omega)]
          by_cases c2 : 65 ≤ i ∧ i < 64 + k
          · rw [if_pos c2, if_pos (show 65 ≤ i ∧ i < 64 + (k + 1) by omega)]
          · rw [if_neg c2, if_neg (show ¬(65 ≤ i ∧ i < 64 + (k + 1)) by omega)]
theorem bit_of (X : B64) (j : Nat) : ((iv X / 2 ^ j).tmod 2 == 1) = X.getLsbD j := by
  have h : X.getLsbD j = decide (X.toNat / 2 ^ j % 2 = 1) := by rw [← BitVec.testBit_toNat, Nat.testBit_eq_decide_div_mod_eq]
  rw [h]
  have e : (iv X / 2 ^ j).tmod 2 = ((X.toNat / 2 ^ j % 2 : Nat) : Int) := by
    unfold iv
    rw [Int.tmod_eq_emod_of_nonneg (Int.ediv_nonneg (by omega) (Int.pow_nonneg (by omega)))]
    rw [Int.natCast_emod, Int.natCast_ediv, Int.natCast_pow]; rfl
  rw [e, Bool.eq_iff_iff, beq_iff_eq, decide_eq_true_eq]
  omega
theorem ret_row {fn : Func} {p : Tmp} {a : Act} {w : World} {R : Ending → World → Prop} {g : Nat} {r : List Bool} (h : fn.results = #[.cell p 40]) (hr : r.length = 129) (hp : a.tmps.getD p undef = .pointer (some ⟨g, 0, none⟩))
    (hg : Blk w g 40 (rowA r)) (hd : a.defers = []) (hR : R (.returned (.agg (rowA r))) w) : bodyPost Try.prog fn R .ret a w :=
  bodyPost_ret (results_cell_row h _ w g 40 (rowA r) (0, 0) _ hp hg Try.underlying40 rfl (by rw [info40, rowA_size, hr])) hd hR
set_option maxHeartbeats 1000000 in
theorem rowof_any (F S : B64) (w : World) : Calls Try.prog 51 #[.int .u64 (iv F), .int .u64 (iv S)] w fun e w' => e = .returned (.agg (rowA (rowOf F S))) ∧ Below w.heap.size w w' := by
  have hz := zero40
  obtain ⟨q, hq⟩ : ∃ q, rowOf F S = q := ⟨_, rfl⟩
  rw [hq]
  have HQ : Hid (rowK F S 65 = q) := hq
  have HQL : Hid (q.length = 129) := by show _ = _; rw [← HQ.out]; exact rowK_len _ _ _
  clear hq
  go_enter Try.func51, Try.ntmps51
  go_wp2
  clear hz
  go_loopw [6] (fun i wr => ∃ (k : Nat), 1 ≤ k ∧ k ≤ 65 ∧ i = .int .i64 k ∧ Blk wr w.heap.size 40 (rowA zeros) ∧ Blk wr (w.heap.size + 1) 40 (rowA (rowK F S k)) ∧ Below w.heap.size w wr) (fun i _ => 65 - (intOf i).toNat)
  case atStart => exact ⟨1, by omega, by omega, rfl, (Blk.new w 40 _).alloc _, by rw [rowK_one]; exact Blk.new2 _ _ _ _, below2 _ _ _⟩
  case round =>
    obtain ⟨k, k0, k1, rfl, hX, hY, hb⟩ := hrel
    by_cases hlt : k ≤ 64
    · have y0 := (hY.cell k).trans (rowA_get (rowK F S k) k (by rw [rowK_len]; omega))
      have y1 := (hY.cell (64 + k)).trans (rowA_get (rowK F S k) (64 + k) (by rw [rowK_len]; omega))
      have yf := hY.frozen k
      have yg := hY.frozen (64 + k)
      have b1 := bit_of F (64 - k)
      have b2 := bit_of S (64 - k)
      have HX := Lib.hid hX
      have HY := Lib.hid hY
      clear hX hY
      obtain ⟨v1, e1⟩ : ∃ v, F.getLsbD (64 - k) = v := ⟨_, rfl⟩
      obtain ⟨v2, e2⟩ : ∃ v, S.getLsbD (64 - k) = v := ⟨_, rfl⟩
      rw [e1] at b1
      rw [e2] at b2
      have E1 := Lib.hid e1
      have E2 := Lib.hid e2
      clear e1 e2
      go_wp2
      go_roundw
      case rel =>
        refine ⟨k + 1, by omega, by omega, by go_num, (HX.out.far_ (by omega) _).far_ (by omega) _, ?_, (hb.setCell (p := ⟨w.heap.size + 1, k, none⟩) (by simp) _).setCell (p := ⟨w.heap.size + 1, 64 + k, none⟩) (by simp) _⟩
        have h := (HY.out.set_ k (.bool v1)).set_ (64 + k) (.bool v2)
        rw [rowA_set, rowA_set, ← E1.out, ← E2.out, rowK_step F S k k0 hlt] at h
        rw [← E1.out, ← E2.out]
        exact h
      case measure => simp [intOf]; omega
    · have hk : k = 65 := by omega
      subst hk
      rw [HQ.out] at hY
      have HX := Lib.hid hX
      have HY := Lib.hid hY
      have HS : Hid ((Try.prog.info? 40).map (·.size) = some (rowA q).size) := by show _ = _; rw [info40, rowA_size, HQL.out]
      have HZ : Hid ((rowA zeros).size = (rowA q).size) := by show _ = _; rw [rowA_size, rowA_size, HQL.out]; rfl
      have H1 : Hid ((rowA q).all (·.oneCell') = true) := rowA_one q
      clear hX hY
      go_wp2_with (first
        | (refine wpList_load_row rfl 40 (.tmp 5) rfl _ rfl 40 (rowA q) (0, 0) _ HY.out Try.underlying40 rfl HS.out ?_)
        | (refine wpList_store_row rfl 40 (.tmp 4) (.tmp 28) rfl _ (rowA q) rfl rfl 40 (rowA zeros) HX.out HS.out HZ.out H1.out ?_))
      exact ret_row rfl HQL.out rfl HX.out.setRow rfl ⟨rfl, below_setRow hb (Nat.le_refl _)⟩
end Go.Proofs.Ytieloocmkgficaa
