/-
  Lists of texts that are the same; idle signs.
-/
import Derived.Test.YtpipcklnicmpfaaFedW
namespace Go.Proofs.Ytpipcklnicmpfaa
open Go.RowKit
set_option linter.unusedVariables false
set_option linter.unusedSimpArgs false
/-- A list of texts that lies somewhere. -/
def SL (w : World) (A : Option Addr) (ms : List Bys) : Prop :=
  ∀ k, k < ms.length → ∃ b off, A = some ⟨b, off, none⟩ ∧ b < w.heap.size ∧ w.cell? ⟨b, off + k, none⟩ = some (.string (bstr (ms.getD k [])))
theorem SL.of_own {w : World} {B c : Nat} {A : Option Addr} {ms : List Bys} (h : w.ownsRow B 9 1 (.slice A ms.length c) ms.length (strs ms)) : SL w A ms := fun k hk => by
  obtain ⟨g, cap, hv, _, hlt⟩ := h.form (by omega)
  have hA : A = some ⟨g, 0, none⟩ := by injection hv
  subst hA
  refine ⟨g, 0, rfl, hlt, ?_⟩
  have := h.cells (g := g) rfl k (.string (bstr (ms.getD k []))) (by
    unfold strs
    rw [List.getElem?_map, List.getElem?_eq_getElem hk, List.getD, List.getElem?_eq_getElem hk]; rfl)
  rwa [Addr.add_lit] at this
theorem SL.below {w w' : World} {A : Option Addr} {ms : List Bys} (h : SL w A ms) (hb : Below w.heap.size w w') : SL w' A ms := fun k hk => by
  obtain ⟨b, off, e, hlt, hc⟩ := h k hk
  exact ⟨b, off, e, Nat.lt_of_lt_of_le hlt hb.size, (hb.cell (p := ⟨b, off + k, none⟩) hlt).trans hc⟩
set_option maxHeartbeats 1000000 in
theorem same_true (A1 A2 : Option Addr) (n c1 c2 : Nat) (ms : List Bys) (hn : ms.length = n) (hnn : n ≤ 1000000000000000) (w : World) (h1 : SL w A1 ms) (h2 : SL w A2 ms) :
    Calls Try.prog 15 #[.slice A1 n c1, .slice A2 n c2] w fun e w' => e = .returned (.bool true) ∧ ∃ q, w' = w.drewN q := by
  have H1 := Lib.hid h1
  have H2 := Lib.hid h2
  have HN := Lib.hid hn
  clear h1 h2 hn
  go_enter Try.func15, Try.ntmps15
  go_wp2
  go_loopw [5] (fun i wr => ∃ (k q : Nat), k ≤ n ∧ i = .int .i64 k ∧ wr = w.drewN q) (fun i _ => n - (intOf i).toNat)
  case atStart => exact ⟨0, 0, by omega, rfl, rfl⟩
  case round =>
    obtain ⟨k, q, hk, rfl, rfl⟩ := hrel
    by_cases hlt : k < n
    · obtain ⟨b, off, rfl, hb, hc⟩ := H1.out k (by rw [HN.out]; exact hlt)
      obtain ⟨b2, off2, rfl, hb2, hc2⟩ := H2.out k (by rw [HN.out]; exact hlt)
      obtain ⟨x, hx⟩ : ∃ x, bstr (ms.getD k []) = x := ⟨_, rfl⟩
      rw [hx] at hc hc2
      clear hx
      have d1 : decide ((k : Int) < (n : Int)) = true := decide_eq_true (by omega)
      have z0 : (0 : Int) ≤ (k : Int) := by omega
      have z1 : (k : Int) < (n : Int) := by omega
      go_wp2
      go_quiet (fail)
      go_wp2
      go_roundw
      case rel => exact ⟨k + 1, q + nq, by omega, by go_num, by simp⟩
      case measure => simp [intOf]; omega
    · have d1 : decide ((k : Int) < (n : Int)) = false := decide_eq_false (by omega)
      go_wp2
      go_ret
      exact ⟨rfl, q, rfl⟩
theorem sign_any (h : Int) (h1 : 1 ≤ h) (h4 : h ≤ 4) (w : World) : Calls Try.prog 13 #[.int .i64 h] w fun e w' => e = .returned (.string (bstr (hdrV h 0))) ∧ w = w' := by
  have hh : h = 1 ∨ h = 2 ∨ h = 3 ∨ h = 4 := by omega
  rcases hh with rfl | rfl | rfl | rfl
  · have e : bstr (hdrV 1 0) = ⟨#[0, 0]⟩ := by kernel_rfl
    rw [e]; clear e
    go_enter Try.func13, Try.ntmps13; go_wp2; go_ret; exact ⟨rfl, rfl⟩
  · have e : bstr (hdrV 2 0) = ⟨#[48, 48, 48, 48]⟩ := by kernel_rfl
    rw [e]; clear e
    go_enter Try.func13, Try.ntmps13; go_wp2; go_ret; exact ⟨rfl, rfl⟩
  · have e : bstr (hdrV 3 0) = ⟨#[0, 0]⟩ := by kernel_rfl
    rw [e]; clear e
    go_enter Try.func13, Try.ntmps13; go_wp2; go_ret; exact ⟨rfl, rfl⟩
  · have e : bstr (hdrV 4 0) = ⟨#[0, 2]⟩ := by kernel_rfl
    rw [e]; clear e
    go_enter Try.func13, Try.ntmps13; go_wp2; go_ret; exact ⟨rfl, rfl⟩
end Go.Proofs.Ytpipcklnicmpfaa
