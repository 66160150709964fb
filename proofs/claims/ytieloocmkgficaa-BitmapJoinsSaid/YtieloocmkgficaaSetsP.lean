/-
  BitmapSets: the plain law, the law's own field, a map handed over, memory of four maps.
-/
import Derived.Test.YtieloocmkgficaaEx
import Derived.ProofKit
import Derived.OpenShut
import Derived.WideShapes
import Derived.ChangeOld
namespace Go.Proofs.Ytieloocmkgficaa
open Go.RowKit Go.ChangeShapes Go.WideShapes Go.ChangeAt
set_option linter.unusedVariables false
set_option linter.unusedSimpArgs false
theorem or_zero (A : B64) : A ||| 0#64 = A := by simp
theorem and_lit (A : B64) : A &&& 18446744073709551615#64 = A := by
  rw [show 18446744073709551615#64 = BitVec.allOnes 64 by decide, BitVec.and_allOnes]
theorem and_not_zero (A : B64) : A &&& ~~~0#64 = A := by
  rw [show ~~~0#64 = BitVec.allOnes 64 by decide, BitVec.and_allOnes]
theorem sets_facts (A AS : B64) (n : Int) (hf : fldB n = true) (hr : rightB A AS = true) :
    wE A AS n = 0 ∧ rightB (woF (wF A AS n) n) (woS (wS A AS n) n) = true ∧ wF (woF (wF A AS n) n) (woS (wS A AS n) n) n = wF A AS n ∧ wS (woF (wF A AS n) n) (woS (wS A AS n) n) n = wS A AS n ∧
    wE (woF (wF A AS n) n) (woS (wS A AS n) n) n = 0 ∧ hasB (wF A AS n) (wS A AS n) n = true ∧ hasB (woF (wF A AS n) n) (woS (wS A AS n) n) n = false ∧
    ((woF (wF A AS n) n == A && woS (wS A AS n) n == AS) = !(hasB A AS n)) := by
  have hY : rightB (woF (wF A AS n) n) (woS (wS A AS n) n) = true := by
    unfold rightB at hr ⊢
    simp only [Bool.not_eq_true', Bool.or_eq_false_iff] at hr ⊢
    unfold woF woS wF wS
    have hr' : rightB A AS = true := by unfold rightB; rw [hr.1, hr.2]; rfl
    simp only [hf, hr', if_true, Bool.and_self]
    rcases fld_cases hf with ⟨h1, h2⟩ | ⟨h1, h2⟩
    · unfold oF oS
      simp only [if_pos h2, BitVec.getLsbD_and, BitVec.getLsbD_or, BitVec.getLsbD_not, BitVec.getLsbD_twoPow, hr.1, hr.2]
      have e : ¬ (64 - n).toNat = 63 := by omega
      simp [e]
    · unfold oF oS
      simp only [if_neg (show ¬ n ≤ 64 by omega), BitVec.getLsbD_and, BitVec.getLsbD_or, BitVec.getLsbD_not, BitVec.getLsbD_twoPow, hr.1, hr.2]
      have e : ¬ (128 - n).toNat = 63 := by omega
      simp [e]
  refine ⟨?_, hY, ?_, ?_, ?_, ?_, ?_, ?_⟩
  · unfold wE; rw [hf, hr]; rfl
  · rw [wF, hf, hY]; simp only [Bool.and_self, if_true]
    unfold woF wF; simp only [hf, hr, Bool.and_self, if_true]
    unfold oF
    split
    · exact (tw A _ (by rcases fld_cases hf with h | h <;> omega)).1
    · simp [and_lit]
  · rw [wS, hf, hY]; simp only [Bool.and_self, if_true]
    unfold woS wS; simp only [hf, hr, Bool.and_self, if_true]
    unfold oS
    split
    · simp [and_lit]
    · exact (tw AS _ (by rcases fld_cases hf with h | h <;> omega)).1
  · unfold wE; rw [hf, hY]; rfl
  · unfold hasB wF wS; simp only [hf, hr, Bool.and_self, if_true, Bool.true_and]
    unfold oF oS
    split
    · exact (tw A _ (by rcases fld_cases hf with h | h <;> omega)).2.1
    · exact (tw AS _ (by rcases fld_cases hf with h | h <;> omega)).2.1
  · unfold hasB woF woS wF wS; simp only [hf, hr, Bool.and_self, if_true, Bool.true_and]
    unfold oF oS
    split
    · exact (tw A _ (by rcases fld_cases hf with h | h <;> omega)).2.2.1
    · exact (tw AS _ (by rcases fld_cases hf with h | h <;> omega)).2.2.1
  · unfold hasB woF woS wF wS; simp only [hf, hr, Bool.and_self, if_true, Bool.true_and]
    unfold oF oS
    by_cases h : n ≤ 64
    · simp only [if_pos h, or_zero, and_not_zero, beq_self_eq_true, Bool.and_true]
      have k := (tw A (64 - n).toNat (by rcases fld_cases hf with h | h <;> omega)).2.2.2
      cases hg : A.getLsbD (64 - n).toNat
      · rw [beq_iff_eq.2 (k.2 hg)]; rfl
      · rw [beq_eq_false_iff_ne.2 (fun e => by rw [k.1 e] at hg; cases hg)]; rfl
    · simp only [if_neg h, or_zero, and_not_zero, beq_self_eq_true, Bool.true_and]
      have k := (tw AS (128 - n).toNat (by rcases fld_cases hf with h | h <;> omega)).2.2.2
      cases hg : AS.getLsbD (128 - n).toNat
      · rw [beq_iff_eq.2 (k.2 hg)]; rfl
      · rw [beq_eq_false_iff_ne.2 (fun e => by rw [k.1 e] at hg; cases hg)]; rfl
theorem sets_len (F S F' S' : B64) : lenV (pl (F &&& F')) (pl (S &&& S')) + lenV (pl (F &&& ~~~F')) (pl (S &&& ~~~S')) = lenV F S := by
  unfold lenV
  have a := len_split F F'
  have b := len_split S S'
  omega
def fieldP (c : Int) : Int := if 65 ≤ 2 + (if c < 0 then -(c + 1) else c) % 126 then 2 + (if c < 0 then -(c + 1) else c) % 126 + 1 else 2 + (if c < 0 then -(c + 1) else c) % 126
theorem fieldP_fld (c : Int) : fldB (fieldP c) = true := by
  unfold fieldP fldB
  generalize (if c < 0 then -(c + 1) else c) = a
  simp only [Bool.and_eq_true, decide_eq_true_eq, Bool.not_eq_true', beq_eq_false_iff_ne, ne_eq]
  split <;> omega
theorem lawfield_any (c : Int) (w : World) (h1 : -9223372036854775808 ≤ c) (h2 : c ≤ 9223372036854775807) : Calls Try.prog 15 #[.int .i64 c] w fun e w' => e = .returned (.int .i64 (fieldP c)) ∧ w = w' := by
  unfold fieldP
  by_cases hc : c < 0
  · have W1 : IntKind.i64.wrap (c + 1) = c + 1 := IntWalk.i64_in _ (by omega)
    have W2 : IntKind.i64.wrap (-(c + 1)) = -(c + 1) := IntWalk.i64_in _ (by omega)
    have T : (-(c + 1)).tmod 126 = (-(c + 1)) % 126 := Int.tmod_eq_emod_of_nonneg (by omega)
    rw [if_pos hc]
    have d : decide (c < 0) = true := decide_eq_true hc
    obtain ⟨a, ha⟩ : ∃ a, -(c + 1) = a := ⟨_, rfl⟩
    rw [ha] at W2 T ⊢
    by_cases h : 65 ≤ 2 + a % 126
    · rw [if_pos h]
      go_enter Try.func15, Try.ntmps15
      go_wp2
      go_ret
      exact ⟨by rfl, rfl⟩
    · rw [if_neg h]
      go_enter Try.func15, Try.ntmps15
      go_wp2
      go_ret
      exact ⟨by rfl, rfl⟩
  · have T : c.tmod 126 = c % 126 := Int.tmod_eq_emod_of_nonneg (by omega)
    rw [if_neg hc]
    by_cases h : 65 ≤ 2 + c % 126
    · rw [if_pos h]
      go_enter Try.func15, Try.ntmps15
      go_wp2
      go_ret
      exact ⟨by rfl, rfl⟩
    · rw [if_neg h]
      go_enter Try.func15, Try.ntmps15
      go_wp2
      go_ret
      exact ⟨by rfl, rfl⟩
section
variable {H : Type} {enc : TypeId × Value → H} {w : World} {base : Nat} {spare : Nat → Bool} {held : Bool}
theorem u64b {n : Int} (h : (Lit.int .u64 n).wf = true) : 0 ≤ n ∧ n < 18446744073709551616 := by
  have hmin : IntKind.u64.min = 0 := rfl
  have hmax : IntKind.u64.max = 18446744073709551615 := rfl
  simp only [Lit.wf, Bool.and_eq_true, decide_eq_true_eq] at h; omega
/-- A map handed over: two halves. -/
theorem open_map {r : Reach} {b0 : Nat} {v : Value} {d : DataW H} {p : List MemPlace} (hv : Value.okWide Try.prog w r b0 24 v) (h : DataW.Trod enc Try.prog w base spare held 24 v d p) :
    ∃ F S : B64, v = .agg #[.int .u64 (iv F), .int .u64 (iv S)] := by
  obtain ⟨cs, rfl, hsz⟩ := okWide_struct Try.underlying24 hv
  obtain ⟨l⟩ := cs
  have hC : Try.prog.cellsOf 24 = 2 := by kernel_rfl
  match l, hsz.trans hC with
  | [c0, c1], _ =>
    obtain ⟨fuel, hf⟩ := h
    obtain ⟨xs, n, _, hx, _, hlen, hg⟩ := DataW.trod_struct Try.underlying24 hf
    have h3 : Try.prog.cellsOf 22 = 1 := by kernel_rfl
    match xs, hlen with
    | [y0, y1], _ =>
      have t0 : DataW.trod enc Try.prog w base spare held n 22 [c0] = some y0 := by simpa [Value.cells, h3] using hg 0 _ rfl
      have t1 : DataW.trod enc Try.prog w base spare held n 22 [c1] = some y1 := by simpa [Value.cells, h3] using hg 1 _ rfl
      obtain ⟨z0, e0, k0⟩ := DataW.trod_int Try.underlying22 t0
      obtain ⟨z1, e1, k1⟩ := DataW.trod_int Try.underlying22 t1
      simp only [List.cons.injEq, and_true] at e0 e1
      subst e0 e1
      exact ⟨BitVec.ofNat 64 z0.toNat, BitVec.ofNat 64 z1.toNat, by rw [iv_of z0 (u64b k0.2).1 (u64b k0.2).2, iv_of z1 (u64b k1.2).1 (u64b k1.2).2]⟩
end
end Go.Proofs.Ytieloocmkgficaa
