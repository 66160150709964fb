/-
  Numbers: the iterator, by its contract.
-/
import Derived.RangeFuncNested
import Derived.RangeFuncBound
import Derived.RangeFuncCalls
import Derived.RangeFuncLeaves
import Derived.Shelf.Abstract
import Derived.Shelf.RegionOpen
import Derived.WalkKit
import Derived.OwnWalkIn
import Derived.TacticsInMore
import Derived.LoopNIn
import Derived.LoopIn
import Derived.Test.YtieloocmkgficaaHas
namespace Go.Proofs.Ytieloocmkgficaa
open Go.RowKit Go.Shelf
set_option linter.unusedVariables false
set_option linter.unusedSimpArgs false
attribute [local go_sem] Oper.semAt_some
/-- The fields of a map up to a number. -/
def numsTo (F S : B64) (k : Nat) : List Int := ((List.range k).map fun i => ((i : Nat) : Int) + 2).filter (hasB F S)
def nums (F S : B64) : List Int := numsTo F S 127
theorem numsTo_succ (F S : B64) (k : Nat) : numsTo F S (k + 1) = numsTo F S k ++ if hasB F S ((k : Int) + 2) = true then [((k : Int) + 2)] else [] := by
  unfold numsTo
  rw [List.range_succ, List.map_append, List.filter_append]
  simp only [List.map_cons, List.map_nil, List.filter_cons, List.filter_nil]
theorem numsTo_prefix (F S : B64) (k n : Nat) (h : k ≤ n) : numsTo F S k <+: numsTo F S n := by
  induction n with
  | zero => have : k = 0 := by omega
            subst this; exact List.prefix_refl _
  | succ n ih =>
    by_cases e : k = n + 1
    · subst e; exact List.prefix_refl _
    · exact (ih (by omega)).trans (by rw [numsTo_succ]; exact List.prefix_append _ _)
/-- What a round that goes on keeps: the box of the map. -/
def KB (Bn : Nat) (W W' : World) : Prop := W.heap.size ≤ W'.heap.size ∧ W'.heap[Bn]? = W.heap[Bn]?
theorem KB.refl (Bn : Nat) (W : World) : KB Bn W W := ⟨Nat.le_refl _, rfl⟩
theorem KB.trans {Bn : Nat} {A B C : World} (h : KB Bn A B) (k : KB Bn B C) : KB Bn A C := ⟨Nat.le_trans h.1 k.1, k.2.trans h.2⟩
theorem KB.below {Bn : Nat} {A B : World} (h : Below A.heap.size A B) (hl : Bn < A.heap.size) : KB Bn A B := ⟨h.size, h.block Bn hl⟩
theorem KB.cell {Bn i : Nat} {A B : World} (h : KB Bn A B) : B.cell? ⟨Bn, i, none⟩ = A.cell? ⟨Bn, i, none⟩ := by simp only [World.cell?, h.2]
theorem KB.set_ {Bn : Nat} (W : World) (p : Addr) (v : Value) (hne : p.block ≠ Bn) : KB Bn W (W.setCell p v) := ⟨by simp, Below.heap_setCell W p v Bn (fun e => hne e.symm)⟩
theorem KB.put {Bn : Nat} (W : World) (l : Nat) (o o' : Obj) (ho : W.heap[l]? = some o) (hne : l ≠ Bn) : KB Bn W (W.putObj l o') := ⟨by simp, World.putObj_heap_other (fun e => hne e.symm)⟩
theorem only_none {w w' : World} (h : Below w.heap.size w w') : w.grownBy w' none := ⟨h.os, h.tape, h.output, h.size, fun i hi _ => h.block i hi⟩
set_option maxRecDepth 100000 in
set_option maxHeartbeats 1000000 in
theorem nums1_in (n : Nat) (hn : 1 ≤ n) (l Bn : Nat) (F S : B64) (J Jx : List Int → World → Prop) (W : World) (hBl : Bn < W.heap.size)
    (hJ : AbidesFrom W.heap.size J)
    (hY : ∀ pre x W1, hasB F S x = true → J pre W1 → pre.length < (nums F S).length → YieldAt Fence.wide (n - 1) Try.prog l #[.int .i64 x] W1 fun e W' =>
      (e = .returned (.bool true) ∧ J (pre ++ [x]) W' ∧ KB Bn W1 W') ∨ (e = .returned (.bool false) ∧ Jx (pre ++ [x]) W'))
    (c0 : W.cell? ⟨Bn, 0, none⟩ = some (.int .u64 (iv F))) (c1 : W.cell? ⟨Bn, 1, none⟩ = some (.int .u64 (iv S))) (h0 : J [] W) :
    CallsIn Fence.wide n Try.prog 54 #[.func (.yield l) #[] #[], .pointer (some ⟨Bn, 0, none⟩)] W fun e W' => (∃ v, e = .returned v) ∧
      ((∃ ys, ys = nums F S ∧ J ys W') ∨ (∃ pre, pre <+: nums F S ∧ Jx pre W')) := by
  refine callsIn_of_wp Try.func54 rfl trivial ?_ rfl
  simp only [Try.ntmps54, List.size_toArray, List.length_cons, List.length_nil, Nat.reduceAdd, Nat.reduceSub, Array.replicate_succ, Array.replicate_zero, List.push_toArray, List.append_toArray, List.nil_append, List.cons_append]
  gi_wp2
  gi_loopw [3] (fun p wr => ∃ k : Nat, k ≤ 127 ∧ p = .int .i64 ((k : Int) + 2) ∧ Hid (J (numsTo F S k) wr) ∧ Hid (KB Bn W wr) ∧ Bn < wr.heap.size) (fun p _ => 129 - (intOf p).toNat)
  case atStart => exact ⟨0, by omega, rfl, Lib.hid h0, Lib.hid (KB.refl _ _), hBl⟩
  case round =>
    obtain ⟨k, hk, rfl, HJ, HB, hz⟩ := hrel
    have y0 := HB.out.cell.trans c0
    have y1 := HB.out.cell.trans c1
    by_cases hlt : k < 127
    · have d0 : decide ((k : Int) + 2 ≤ 128) = true := decide_eq_true (by omega)
      cases hf : hasB F S ((k : Int) + 2)
      · have HF := Lib.hid hf
        clear hf
        gi_wp2_with (refine ⟨trivial, ?_⟩; gi_at_call 14; refine (callsIn_wide.2 (has_any F S ((k : Int) + 2) _)).mono ?_; rintro e w1 ⟨rfl, hb⟩; rw [HF.out]; have HB1 := Lib.hid hb; clear hb)
        refine ⟨fun _ h => (by cases h), ?_⟩
        gi_wp2
        go_roundw
        case rel =>
          refine ⟨k + 1, by omega, by go_num, ?_, Lib.hid (HB.out.trans (KB.below HB1.out hz)), Nat.lt_of_lt_of_le hz HB1.out.size⟩
          have q := hJ _ _ _ none HJ.out (only_none HB1.out) (by simp)
          rw [numsTo_succ, HF.out, if_neg (by decide), List.append_nil]
          exact q
        case measure => simp [intOf]; omega
      · have HF := Lib.hid hf
        have HLN : Hid ((numsTo F S k).length < (nums F S).length) := by
          show _ < _
          have q := (numsTo_prefix F S (k + 1) 127 (by omega)).length_le
          rw [numsTo_succ, hf, if_pos rfl, List.length_append] at q
          simp only [List.length_cons, List.length_nil] at q
          exact q
        clear hf
        gi_wp2_with (refine ⟨trivial, ?_⟩; gi_at_call 14; refine (callsIn_wide.2 (has_any F S ((k : Int) + 2) _)).mono ?_; rintro e w1 ⟨rfl, hb⟩; rw [HF.out]; have HB1 := Lib.hid hb; clear hb; obtain ⟨fn, tmps, assign, body, hy, hR⟩ := hY (numsTo F S k) ((k : Int) + 2) w1 HF.out (hJ _ _ _ none HJ.out (only_none HB1.out) (by simp)) HLN.out)
        refine hR.mono ?_
        rintro e W3 (⟨rfl, hJ3, hk3⟩ | ⟨rfl, hJx3⟩)
        · have HJ3 := Lib.hid hJ3
          have HK3 := Lib.hid hk3
          clear hJ3 hk3 hR hy
          gi_wp2
          go_roundw
          case rel =>
            refine ⟨k + 1, by omega, by go_num, ?_, Lib.hid ((HB.out.trans (KB.below HB1.out hz)).trans HK3.out), Nat.lt_of_lt_of_le (Nat.lt_of_lt_of_le hz HB1.out.size) HK3.out.1⟩
            rw [numsTo_succ, HF.out, if_pos rfl]
            exact HJ3
          case measure => simp [intOf]; omega
        · have HX3 := Lib.hid hJx3
          clear hJx3 hR hy
          gi_wp2
          refine bodyPost_ret (results_none rfl _ _ _) rfl ?_
          refine ⟨⟨_, rfl⟩, .inr ⟨numsTo F S k ++ [((k : Int) + 2)], ?_, HX3.out⟩⟩
          have q := numsTo_prefix F S (k + 1) 127 (by omega)
          rw [numsTo_succ, HF.out, if_pos rfl] at q
          exact q
    · have d0 : decide ((k : Int) + 2 ≤ 128) = false := decide_eq_false (by omega)
      gi_wp2
      go_end0
      exact ⟨⟨_, rfl⟩, .inl ⟨_, rfl, by have : k = 127 := by omega
                                        subst this; exact HJ.out⟩⟩
end Go.Proofs.Ytieloocmkgficaa
