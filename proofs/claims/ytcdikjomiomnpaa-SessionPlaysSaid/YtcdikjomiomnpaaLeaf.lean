/-
  The session's small functions, each by its contract: the choice, the three questions on what is said, State, Ready, Heard, Down, waited, Up.
-/
import Derived.Test.YtcdikjomiomnpaaWords
import Derived.Deep.QuietTactic
import Derived.BigQuiet
namespace Go.Proofs.Ytcdikjomiomnpaa
open Go.RowKit
def pickP (c n : Int) : Int := if c < 0 then (-(c + 1)) % n else c % n
theorem pickP_lo (c n : Int) (hn : 0 < n) : 0 ≤ pickP c n := by unfold pickP; split <;> exact Int.emod_nonneg _ (by omega)
theorem pickP_hi (c n : Int) (hn : 0 < n) : pickP c n < n := by unfold pickP; split <;> exact Int.emod_lt_of_pos _ hn
set_option maxHeartbeats 400000 in
theorem pick_any (c n : Int) (w : World) (h1 : -9223372036854775808 ≤ c) (h2 : c ≤ 9223372036854775807) (hn : 0 < n) (hm : n ≤ 9223372036854775807) :
    Calls Try.prog 9 #[.int .i64 c, .int .i64 n] w fun e w' => e = .returned (.int .i64 (pickP c n)) ∧ w = w' := by
  by_cases hc : c < 0
  · have h0 : 0 ≤ -(c + 1) := by omega
    go_enter Try.func9, Try.ntmps9
    go_wp2
    go_ret
    exact ⟨by unfold pickP; rw [if_pos hc, ← Int.tmod_eq_emod_of_nonneg h0, Int.neg_tmod]; rfl, rfl⟩
  · have h0 : 0 ≤ c := by omega
    go_enter Try.func9, Try.ntmps9
    go_wp2
    go_ret
    exact ⟨by unfold pickP; rw [if_neg (by omega)]; rfl, rfl⟩
def nothingB (y : Y) : Bool := y.code.toList.isEmpty && (y.answer.toList.isEmpty && !y.lost)
set_option maxHeartbeats 400000 in
theorem nothing_any (c a : ByteArray) (l : Bool) (w : World) :
    Calls Try.prog 12 #[.agg #[.string c, .string a, .bool l]] w fun e w' => e = .returned (.bool (nothingB ⟨c, a, l⟩)) ∧ Below w.heap.size w w' := by
  by_cases h1 : c.toList.isEmpty = true
  · by_cases h2 : a.toList.isEmpty = true
    · go_enter Try.func12, Try.ntmps12
      go_wp2
      go_ret
      exact ⟨by simp [nothingB, h1, h2], (Below.refl _ _).alloc (Nat.le_refl _) _⟩
    · go_enter Try.func12, Try.ntmps12
      go_wp2
      go_ret
      exact ⟨by simp [nothingB, h1, h2], (Below.refl _ _).alloc (Nat.le_refl _) _⟩
  · go_enter Try.func12, Try.ntmps12
    go_wp2
    go_ret
    exact ⟨by simp [nothingB, h1], (Below.refl _ _).alloc (Nat.le_refl _) _⟩
def asksB (y : Y) (k : ByteArray) : Bool := (y.code.toList == k.toList) && (y.answer.toList.isEmpty && !y.lost)
set_option maxHeartbeats 400000 in
theorem asks_any (c a k : ByteArray) (l : Bool) (w : World) :
    Calls Try.prog 17 #[.agg #[.string c, .string a, .bool l], .string k] w fun e w' => e = .returned (.bool (asksB ⟨c, a, l⟩ k)) ∧ Below w.heap.size w w' := by
  rcases Bool.eq_false_or_eq_true (c.toList == k.toList) with h1 | h1
  · rcases Bool.eq_false_or_eq_true a.toList.isEmpty with h2 | h2
    · go_enter Try.func17, Try.ntmps17
      go_wp2
      go_ret
      exact ⟨by simp only [asksB, h1, h2]; rfl, (Below.refl _ _).alloc (Nat.le_refl _) _⟩
    · go_enter Try.func17, Try.ntmps17
      go_wp2
      go_ret
      exact ⟨by simp only [asksB, h1, h2]; rfl, (Below.refl _ _).alloc (Nat.le_refl _) _⟩
  · go_enter Try.func17, Try.ntmps17
    go_wp2
    go_ret
    exact ⟨by simp only [asksB, h1]; rfl, (Below.refl _ _).alloc (Nat.le_refl _) _⟩
def answersB (y : Y) (k j : ByteArray) : Bool := (y.code.toList == k.toList) && ((y.answer.toList == j.toList) && !y.lost)
set_option maxHeartbeats 400000 in
theorem answers_any (c a k j : ByteArray) (l : Bool) (w : World) :
    Calls Try.prog 28 #[.agg #[.string c, .string a, .bool l], .string k, .string j] w fun e w' => e = .returned (.bool (answersB ⟨c, a, l⟩ k j)) ∧ Below w.heap.size w w' := by
  rcases Bool.eq_false_or_eq_true (c.toList == k.toList) with h1 | h1
  · rcases Bool.eq_false_or_eq_true (a.toList == j.toList) with h2 | h2
    · go_enter Try.func28, Try.ntmps28
      go_wp2
      go_ret
      exact ⟨by simp only [answersB, h1, h2]; rfl, (Below.refl _ _).alloc (Nat.le_refl _) _⟩
    · go_enter Try.func28, Try.ntmps28
      go_wp2
      go_ret
      exact ⟨by simp only [answersB, h1, h2]; rfl, (Below.refl _ _).alloc (Nat.le_refl _) _⟩
  · go_enter Try.func28, Try.ntmps28
    go_wp2
    go_ret
    exact ⟨by simp only [answersB, h1]; rfl, (Below.refl _ _).alloc (Nat.le_refl _) _⟩

section
variable (b : Nat) (ro ec an st wa qu tr : Int) (w : World)
set_option maxHeartbeats 400000 in
theorem state_any (hb : Blk w b 63 (S.cells ⟨ro, ec, an, st, wa, qu, tr⟩)) :
    Calls Try.prog 13 #[.pointer (some ⟨b, 0, none⟩)] w fun e w' => e = .returned (.int .i64 st) ∧ w = w' := by
  have h3 : w.cell? ⟨b, 3, none⟩ = some (.int .i64 st) := hb.cell 3
  have HB := Lib.hid hb
  clear hb
  go_enter Try.func13, Try.ntmps13
  go_wp2
  go_ret
  exact ⟨rfl, rfl⟩
def readyB (st : Int) : Bool := st == 3 || st == 4
set_option maxHeartbeats 400000 in
theorem ready_any (hb : Blk w b 63 (S.cells ⟨ro, ec, an, st, wa, qu, tr⟩)) :
    Calls Try.prog 18 #[.pointer (some ⟨b, 0, none⟩)] w fun e w' => e = .returned (.bool (readyB st)) ∧ w = w' := by
  have h3 : w.cell? ⟨b, 3, none⟩ = some (.int .i64 st) := hb.cell 3
  have HB := Lib.hid hb
  clear hb
  rcases Bool.eq_false_or_eq_true (st == 3) with h1 | h1
  all_goals
    go_enter Try.func18, Try.ntmps18
    go_wp2
    go_ret
    exact ⟨by simp [readyB, h1], rfl⟩
set_option maxHeartbeats 400000 in
theorem heard_any (hb : Blk w b 63 (S.cells ⟨ro, ec, an, st, wa, qu, tr⟩)) :
    Calls Try.prog 14 #[.pointer (some ⟨b, 0, none⟩)] w (Moves w b (heardS ⟨ro, ec, an, st, wa, qu, tr⟩)) := by
  have h3 : w.cell? ⟨b, 3, none⟩ = some (.int .i64 st) := hb.cell 3
  have h5 : w.cell? ⟨b, 5, none⟩ = some (.int .i64 qu) := hb.cell 5
  have f5 := hb.frozen 5
  have HB := Lib.hid hb
  clear hb
  by_cases k : st = 3
  · have h1 : (st == 3) = true := by simp [k]
    have K := Lib.hid k
    clear k
    go_enter Try.func14, Try.ntmps14
    go_wp2
    go_end0
    exact Moves.of (s := ⟨ro, ec, an, st, wa, 0, tr⟩) ⟨rfl, HB.out.set_ 5 _, only_setCell (only_refl _ _) (.inl rfl) _⟩ (by simp [heardS, K.out])
  · have h1 : (st == 3) = false := by simp [k]
    have K := Lib.hid k
    clear k
    go_enter Try.func14, Try.ntmps14
    go_wp2
    go_end0
    exact Moves.of (s := ⟨ro, ec, an, st, wa, qu, tr⟩) ⟨rfl, HB.out, only_refl _ _⟩ (by simp [heardS, K.out])
set_option maxHeartbeats 400000 in
theorem down_any (hb : Blk w b 63 (S.cells ⟨ro, ec, an, st, wa, qu, tr⟩)) :
    Calls Try.prog 34 #[.pointer (some ⟨b, 0, none⟩)] w (Moves w b (downS ⟨ro, ec, an, st, wa, qu, tr⟩)) := by
  have h3 : w.cell? ⟨b, 3, none⟩ = some (.int .i64 st) := hb.cell 3
  have f3 := hb.frozen 3
  have HB := Lib.hid hb
  clear hb
  go_enter Try.func34, Try.ntmps34
  go_wp2
  go_end0
  exact Moves.of (s := ⟨ro, ec, an, 0, wa, qu, tr⟩) ⟨rfl, HB.out.set_ 3 _, only_setCell (only_refl _ _) (.inl rfl) _⟩ rfl
set_option maxHeartbeats 400000 in
theorem waited_no (hb : Blk w b 63 (S.cells ⟨ro, ec, an, st, wa, qu, tr⟩)) (hw0 : 0 ≤ wa) (hw1 : wa ≤ 1000000) (hlt : wa + 1 < an) :
    Calls Try.prog 39 #[.pointer (some ⟨b, 0, none⟩)] w fun e w' => e = .returned (.bool false) ∧ Blk w' b 63 (S.cells ⟨ro, ec, an, st, wa + 1, qu, tr⟩) ∧ w.grownBy w' (some b) := by
  have h2 : w.cell? ⟨b, 2, none⟩ = some (.int .i64 an) := hb.cell 2
  have h4 : w.cell? ⟨b, 4, none⟩ = some (.int .i64 wa) := hb.cell 4
  have f4 := hb.frozen 4
  have HB := Lib.hid hb
  clear hb
  go_enter Try.func39, Try.ntmps39
  go_wp2
  go_quiet (fail)
  go_wp2
  go_ret
  exact ⟨rfl, (HB.out.set_ 4 _).drewN _, only_drewN (only_setCell (only_refl _ _) (.inl rfl) _) _⟩
set_option maxHeartbeats 400000 in
theorem waited_yes (hb : Blk w b 63 (S.cells ⟨ro, ec, an, st, wa, qu, tr⟩)) (hw0 : 0 ≤ wa) (hw1 : wa ≤ 1000000) (hlt : ¬ wa + 1 < an) :
    Calls Try.prog 39 #[.pointer (some ⟨b, 0, none⟩)] w fun e w' => e = .returned (.bool true) ∧ Blk w' b 63 (S.cells ⟨ro, ec, an, st, 0, qu, tr⟩) ∧ w.grownBy w' (some b) := by
  have h2 : w.cell? ⟨b, 2, none⟩ = some (.int .i64 an) := hb.cell 2
  have h4 : w.cell? ⟨b, 4, none⟩ = some (.int .i64 wa) := hb.cell 4
  have f4 := hb.frozen 4
  have HB := Lib.hid hb
  clear hb
  go_enter Try.func39, Try.ntmps39
  go_wp2
  go_quiet (fail)
  go_wp2
  go_ret
  exact ⟨rfl, ((HB.out.set_ 4 _).drewN _).set_ 4 _, only_setCell (only_drewN (only_setCell (only_refl _ _) (.inl rfl) _) _) (.inl rfl) _⟩
set_option maxHeartbeats 400000 in
theorem up_acq (hb : Blk w b 63 (S.cells ⟨1, ec, an, st, wa, qu, tr⟩)) :
    Calls Try.prog 20 #[.pointer (some ⟨b, 0, none⟩)] w (Tells w b ⟨1, ec, an, 1, wa, qu, tr⟩ quietY) := by
  have hlt := hb.lt
  have h0 : w.cell? ⟨b, 0, none⟩ = some (.int .i64 1) := hb.cell 0
  have h3 : w.cell? ⟨b, 3, none⟩ = some (.int .i64 st) := hb.cell 3
  have f3 := hb.frozen 3
  have HB := Lib.hid hb
  clear hb
  go_enter Try.func20, Try.ntmps20
  go_wp2
  exact bodyPost_ret (v := quietY.val) (by simp [results, Try.results20, go_sem, quietY, Y.val, cNone]) rfl ⟨rfl, (HB.out.set_ 3 _).alloc _, only_alloc (only_setCell (only_refl _ _) (.inl rfl) _) _⟩
set_option maxHeartbeats 400000 in
theorem up_iss (hb : Blk w b 63 (S.cells ⟨2, ec, an, st, wa, qu, tr⟩)) :
    Calls Try.prog 20 #[.pointer (some ⟨b, 0, none⟩)] w (Tells w b ⟨2, ec, an, 2, 0, qu, tr⟩ (askY c001)) := by
  have hlt := hb.lt
  have h0 : w.cell? ⟨b, 0, none⟩ = some (.int .i64 2) := hb.cell 0
  have h3 : w.cell? ⟨b, 3, none⟩ = some (.int .i64 st) := hb.cell 3
  have h4 : w.cell? ⟨b, 4, none⟩ = some (.int .i64 wa) := hb.cell 4
  have f3 := hb.frozen 3
  have f4 := hb.frozen 4
  have HB := Lib.hid hb
  clear hb
  go_enter Try.func20, Try.ntmps20
  go_wp2
  refine bodyPost_ret (v := (askY c001).val) ?_ rfl ?_
  · simp [results, Try.results20, go_sem, askY, c001, Y.val, cNone]
  · refine ⟨rfl, ?_, ?_⟩
    · exact ((HB.out.set_ 3 (.int .i64 2)).set_ 4 (.int .i64 0)).alloc _
    · repeat (first | exact only_refl _ _ | refine only_alloc ?_ _ | refine only_drewN ?_ _ | refine only_drew ?_ | refine only_setCell ?_ (.inl rfl) _)
theorem up_any (hb : Blk w b 63 (S.cells ⟨ro, ec, an, st, wa, qu, tr⟩)) (hr : ro = 1 ∨ ro = 2) :
    Calls Try.prog 20 #[.pointer (some ⟨b, 0, none⟩)] w (Tells w b (upS ⟨ro, ec, an, st, wa, qu, tr⟩) (upY ⟨ro, ec, an, st, wa, qu, tr⟩)) := by
  rcases hr with rfl | rfl
  · exact (up_acq b ec an st wa qu tr w hb)
  · exact (up_iss b ec an st wa qu tr w hb)
end
end Go.Proofs.Ytcdikjomiomnpaa
