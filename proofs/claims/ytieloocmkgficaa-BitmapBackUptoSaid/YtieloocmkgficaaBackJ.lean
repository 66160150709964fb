/-
  BitmapBack: the walk joined with the plain law.
-/
import Derived.Test.YtieloocmkgficaaBackX
import Derived.Test.YtieloocmkgficaaOfJ
namespace Go.Proofs.Ytieloocmkgficaa
open Go.RowKit
set_option linter.unusedVariables false
theorem i64w {n : Int} (h : (Lit.int .i64 n).wf = true) : -9223372036854775808 ≤ n ∧ n ≤ 9223372036854775807 := by
  have hmin : IntKind.i64.min = -9223372036854775808 := rfl
  have hmax : IntKind.i64.max = 9223372036854775807 := rfl
  simp only [Lit.wf, Bool.and_eq_true, decide_eq_true_eq] at h; omega
theorem IsRow.wfs {w : World} {a : Option Addr} {len cap : Nat} {zs : List Int} (h : IsRow .i64 w a len cap zs) : ∀ z, z ∈ zs.take len → -9223372036854775808 ≤ z ∧ z ≤ 9223372036854775807 := by
  intro z hz
  rcases h with ⟨_, rfl, _, rfl⟩ | ⟨x, rfl, hl, hm, hzl, hc, hw⟩
  · simp at hz
  · exact i64w (hw z (List.mem_of_mem_take hz))
theorem encP_cases (c : Int) : encP c = 5 ∨ encP c = 1 ∨ encP c = 4 := by
  unfold encP
  repeat' split
  all_goals simp
theorem big_iff (xs : List Int) : big64 xs = true ↔ ¬ ∀ z, z ∈ xs → z ≤ 64 := by
  unfold big64
  rw [List.any_eq_true]
  constructor
  · rintro ⟨x, hx, h⟩ hall
    have := hall x hx
    have := of_decide_eq_true h
    omega
  · intro h
    apply Classical.byContradiction
    intro hn
    apply h
    intro z hz
    apply Classical.byContradiction
    intro hz2
    exact hn ⟨z, hz, decide_eq_true (by omega)⟩
theorem len_ok (c : Int) (S : B64) (xs : List Int) (h : S = 0#64 ↔ (0#64 = 0#64 ∧ ∀ z, z ∈ xs → z ≤ 64)) : lenP (encP c) (big64 xs) = (lenOf (encP c) S : Int) := by
  have hb : (big64 xs = true) ↔ ¬ S = 0#64 := by
    rw [big_iff, h]; simp
  unfold lenP lenOf
  by_cases e : S = 0#64
  · have : big64 xs = false := by
      cases hx : big64 xs
      · rfl
      · exact absurd e (hb.1 hx)
    rw [this, if_pos e]
    rcases encP_cases c with h | h | h <;> rw [h] <;> decide
  · rw [hb.2 e, if_neg e]
    rcases encP_cases c with h | h | h <;> rw [h] <;> decide
theorem back_walk (A : Option Addr) (len cap : Nat) (zs : List Int) {w : World} (h : IsRow .i64 w A len cap zs ∧ len ≤ 1048576) (enc : Int) (h1 : -9223372036854775808 ≤ enc) (h2 : enc ≤ 9223372036854775807) (t : ByteArray) (ht : t.size ≤ 1048576) :
    Calls Try.prog 8 #[.slice A len cap, .int .i64 enc, .string t] w fun v w' => v = .returned (.bool true) ∧ Below w.heap.size w w' := by
  obtain ⟨hI, hl⟩ := h.1.lies
  have hw := h.1.wfs
  obtain ⟨ys, hys⟩ : ∃ ys, zs.take len = ys := ⟨_, rfl⟩
  rw [hys] at hI hl hw
  obtain ⟨m, hm⟩ : ∃ m, m ≤ len ∧ m ≤ 300 ∧ (m = len ∨ m = 300) := ⟨min len 300, by omega⟩
  obtain ⟨xs, hxs⟩ : ∃ xs, fs ys m = xs := ⟨_, rfl⟩
  have hfl : ∀ z, z ∈ xs → fldB z = true := by
    intro z hz
    rw [← hxs] at hz
    obtain ⟨c, _, rfl⟩ := List.mem_map.1 hz
    exact fieldP_fld c
  obtain ⟨F, S, o1, o2, o3, o4⟩ := ofGo_all xs 0#64 0#64 hfl
  have hz0 : ∀ n, hasB 0#64 0#64 n = false := by intro n; unfold hasB; simp
  have hin : ∀ n, hasB F S n = decide (n ∈ xs) := fun n => by rw [o2, hz0]; rfl
  have hr : rightB F S = true := by rw [o3]; rfl
  obtain ⟨s, c1, c2, c3, c4⟩ := codec (encP enc) F S (encP_form enc) hr
  have hsz : s.size ≤ 32 ∧ 8 ≤ s.size := by
    rw [c2]; unfold lenOf
    have := many_pos (formV (encP enc))
    have : manyV (formV (encP enc)) ≤ 16 := by unfold manyV; split <;> omega
    split <;> omega
  refine back_run A len cap ys enc (encP enc) t s F S xs m hl hw w hI hm hxs o1 hin ?_ ?_ ?_ ?_ ?_ ?_ hsz.2 hsz.1 ht
  · exact Lib.hid fun w => encoding_any enc w h1 h2
  · exact Lib.hid fun w => by have q := encode_any (encP enc) F S w; rw [c1] at q; exact q
  · exact Lib.hid fun w => by have q := decode_any_b (encP enc) (s ++ t) w; rw [c3] at q; exact q
  · refine Lib.hid fun w => ?_
    have q := decode_any_b (encP enc) (s.extract 0 (s.size - 1)) w
    rw [c4] at q
    refine q.mono ?_
    rintro e w' ⟨rfl, hb⟩
    refine ⟨?_, hb⟩
    unfold decVal
    have : ((s.size - 1 : Nat) : Int) = (s.size : Int) - 1 := by omega
    simp only [this]
  · refine Lib.hid fun w => ?_
    have q := length_any (encP enc) (big64 xs) w
    rw [len_ok enc S xs o4, ← c2] at q
    exact q
  · exact Lib.hid fun w => by have q := right_any F S w; rw [hr] at q; exact q
end Go.Proofs.Ytieloocmkgficaa
