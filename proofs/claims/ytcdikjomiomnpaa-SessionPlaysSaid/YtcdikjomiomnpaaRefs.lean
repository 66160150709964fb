/-
  The document's session by its contracts; 'same'.
-/
import Derived.Test.YtcdikjomiomnpaaTold
namespace Go.Proofs.Ytcdikjomiomnpaa
open Go.RowKit
set_option linter.unusedVariables false
set_option linter.unusedSimpArgs false
def TellsR (w : World) (b : Nat) (s : S) (y : Y) (e : Ending) (w' : World) : Prop := e = .returned y.val ∧ Blk w' b 65 s.cells ∧ w.grownBy w' (some b)
def MovesR (w : World) (b : Nat) (s : S) (e : Ending) (w' : World) : Prop := e = .returned (.tuple #[]) ∧ Blk w' b 65 s.cells ∧ w.grownBy w' (some b)
theorem TellsR.of {w w' : World} {b : Nat} {s s' : S} {y y' : Y} {e : Ending} (h : TellsR w b s y e w') (hs : s = s') (hy : y = y') : TellsR w b s' y' e w' := by
  subst hs; subst hy; exact h
section
variable (b : Nat) (ro ec an st wa qu tr : Int) (w : World) (c a : ByteArray)
set_option maxHeartbeats 1000000 in
theorem came_on (hb : Blk w b 65 (S.cells ⟨ro, ec, an, 3, wa, qu, tr⟩)) :
    Calls Try.prog 40 #[.pointer (some ⟨b, 0, none⟩)] w (MovesR w b ⟨ro, ec, an, 3, wa, 0, tr⟩) := by
  have hlt := hb.lt
  have c0 : w.cell? ⟨b, 0, none⟩ = some (.int .i64 ro) := hb.cell 0
  have c1 : w.cell? ⟨b, 1, none⟩ = some (.int .i64 ec) := hb.cell 1
  have c2 : w.cell? ⟨b, 2, none⟩ = some (.int .i64 an) := hb.cell 2
  have c3 : w.cell? ⟨b, 3, none⟩ = some (.int .i64 3) := hb.cell 3
  have c4 : w.cell? ⟨b, 4, none⟩ = some (.int .i64 wa) := hb.cell 4
  have c5 : w.cell? ⟨b, 5, none⟩ = some (.int .i64 qu) := hb.cell 5
  have c6 : w.cell? ⟨b, 6, none⟩ = some (.int .i64 tr) := hb.cell 6
  have f3 := hb.frozen 3
  have f4 := hb.frozen 4
  have f5 := hb.frozen 5
  have f6 := hb.frozen 6
  have HB := Lib.hid hb
  clear hb
  go_enter Try.func40, Try.ntmps40
  go_wp2
  go_end0
  refine ⟨rfl, ?_, ?_⟩
  · repeat (with_reducible first | exact HB.out | apply Blk.alloc | apply Blk.drewN | apply Blk.drew | apply Blk.set_eq | apply Blk.far_ (Nat.ne_of_lt hlt))
    all_goals rfl
  · repeat (with_reducible first | exact only_refl _ _ | refine only_alloc ?_ _ | refine only_drewN ?_ _ | refine only_drew ?_ | refine only_own ?_ _ | refine only_new ?_ _)
set_option maxHeartbeats 1000000 in
theorem came_off (hb : Blk w b 65 (S.cells ⟨ro, ec, an, st, wa, qu, tr⟩)) (h3 : (st == 3) = false) :
    Calls Try.prog 40 #[.pointer (some ⟨b, 0, none⟩)] w (MovesR w b ⟨ro, ec, an, st, wa, qu, tr⟩) := by
  have hlt := hb.lt
  have c0 : w.cell? ⟨b, 0, none⟩ = some (.int .i64 ro) := hb.cell 0
  have c1 : w.cell? ⟨b, 1, none⟩ = some (.int .i64 ec) := hb.cell 1
  have c2 : w.cell? ⟨b, 2, none⟩ = some (.int .i64 an) := hb.cell 2
  have c3 : w.cell? ⟨b, 3, none⟩ = some (.int .i64 st) := hb.cell 3
  have c4 : w.cell? ⟨b, 4, none⟩ = some (.int .i64 wa) := hb.cell 4
  have c5 : w.cell? ⟨b, 5, none⟩ = some (.int .i64 qu) := hb.cell 5
  have c6 : w.cell? ⟨b, 6, none⟩ = some (.int .i64 tr) := hb.cell 6
  have f3 := hb.frozen 3
  have f4 := hb.frozen 4
  have f5 := hb.frozen 5
  have f6 := hb.frozen 6
  have HB := Lib.hid hb
  clear hb
  go_enter Try.func40, Try.ntmps40
  go_wp2
  go_end0
  refine ⟨rfl, ?_, ?_⟩
  · repeat (with_reducible first | exact HB.out | apply Blk.alloc | apply Blk.drewN | apply Blk.drew | apply Blk.set_eq | apply Blk.far_ (Nat.ne_of_lt hlt))
    all_goals rfl
  · repeat (with_reducible first | exact only_refl _ _ | refine only_alloc ?_ _ | refine only_drewN ?_ _ | refine only_drew ?_ | refine only_own ?_ _ | refine only_new ?_ _)
theorem came_any (hb : Blk w b 65 (S.cells ⟨ro, ec, an, st, wa, qu, tr⟩)) : Calls Try.prog 40 #[.pointer (some ⟨b, 0, none⟩)] w (MovesR w b (heardS ⟨ro, ec, an, st, wa, qu, tr⟩)) := by
  by_cases k : st = 3
  · subst k
    refine (came_on b ro ec an wa qu tr w hb).mono fun e w' h => ?_
    simpa [heardS] using h
  · refine (came_off b ro ec an st wa qu tr w hb (by simp [k])).mono fun e w' h => ?_
    simpa [heardS, k] using h
set_option maxHeartbeats 1000000 in
theorem rheard_any (hb : Blk w b 65 (S.cells ⟨ro, ec, an, st, wa, qu, tr⟩)) : Calls Try.prog 36 #[.pointer (some ⟨b, 0, none⟩)] w (MovesR w b (heardS ⟨ro, ec, an, st, wa, qu, tr⟩)) := by
  have HB := Lib.hid hb
  clear hb
  go_enter Try.func36, Try.ntmps36
  go_wp2_with (go_at_call 40; refine (came_any b ro ec an st wa qu tr _ HB.out).mono ?_; rintro e w1 ⟨rfl, hb1, hg1⟩)
  go_end0
  exact ⟨rfl, hb1, hg1⟩
set_option maxHeartbeats 1000000 in
theorem rstate_any (hb : Blk w b 65 (S.cells ⟨ro, ec, an, st, wa, qu, tr⟩)) :
    Calls Try.prog 23 #[.pointer (some ⟨b, 0, none⟩)] w fun e w' => e = .returned (.int .i64 st) ∧ w = w' := by
  have h3 : w.cell? ⟨b, 3, none⟩ = some (.int .i64 st) := hb.cell 3
  have HB := Lib.hid hb
  clear hb
  go_enter Try.func23, Try.ntmps23
  go_wp2
  go_ret
  exact ⟨rfl, rfl⟩
set_option maxHeartbeats 1000000 in
theorem rready_any (hb : Blk w b 65 (S.cells ⟨ro, ec, an, st, wa, qu, tr⟩)) :
    Calls Try.prog 24 #[.pointer (some ⟨b, 0, none⟩)] w fun e w' => e = .returned (.bool (readyB st)) ∧ w = w' := by
  have h3 : w.cell? ⟨b, 3, none⟩ = some (.int .i64 st) := hb.cell 3
  have HB := Lib.hid hb
  clear hb
  rcases Bool.eq_false_or_eq_true (st == 3) with h1 | h1
  all_goals
    go_enter Try.func24, Try.ntmps24
    go_wp2
    go_ret
    exact ⟨by simp [readyB, h1], rfl⟩
set_option maxHeartbeats 1000000 in
theorem rdown_any (hb : Blk w b 65 (S.cells ⟨ro, ec, an, st, wa, qu, tr⟩)) :
    Calls Try.prog 35 #[.pointer (some ⟨b, 0, none⟩)] w (MovesR w b ⟨ro, ec, an, 0, wa, qu, tr⟩) := by
  have hlt := hb.lt
  have c0 : w.cell? ⟨b, 0, none⟩ = some (.int .i64 ro) := hb.cell 0
  have c1 : w.cell? ⟨b, 1, none⟩ = some (.int .i64 ec) := hb.cell 1
  have c2 : w.cell? ⟨b, 2, none⟩ = some (.int .i64 an) := hb.cell 2
  have c3 : w.cell? ⟨b, 3, none⟩ = some (.int .i64 st) := hb.cell 3
  have c4 : w.cell? ⟨b, 4, none⟩ = some (.int .i64 wa) := hb.cell 4
  have c5 : w.cell? ⟨b, 5, none⟩ = some (.int .i64 qu) := hb.cell 5
  have c6 : w.cell? ⟨b, 6, none⟩ = some (.int .i64 tr) := hb.cell 6
  have f3 := hb.frozen 3
  have f4 := hb.frozen 4
  have f5 := hb.frozen 5
  have f6 := hb.frozen 6
  have HB := Lib.hid hb
  clear hb
  go_enter Try.func35, Try.ntmps35
  go_wp2
  go_end0
  refine ⟨rfl, ?_, ?_⟩
  · repeat (with_reducible first | exact HB.out | apply Blk.alloc | apply Blk.drewN | apply Blk.drew | apply Blk.set_eq | apply Blk.far_ (Nat.ne_of_lt hlt))
    all_goals rfl
  · repeat (with_reducible first | exact only_refl _ _ | refine only_alloc ?_ _ | refine only_drewN ?_ _ | refine only_drew ?_ | refine only_own ?_ _ | refine only_new ?_ _)
set_option maxHeartbeats 1000000 in
theorem rup_acq (hb : Blk w b 65 (S.cells ⟨1, ec, an, st, wa, qu, tr⟩)) :
    Calls Try.prog 33 #[.pointer (some ⟨b, 0, none⟩)] w (TellsR w b ⟨1, ec, an, 1, wa, qu, tr⟩ quietY) := by
  have hlt := hb.lt
  have c0 : w.cell? ⟨b, 0, none⟩ = some (.int .i64 1) := hb.cell 0
  have c1 : w.cell? ⟨b, 1, none⟩ = some (.int .i64 ec) := hb.cell 1
  have c2 : w.cell? ⟨b, 2, none⟩ = some (.int .i64 an) := hb.cell 2
  have c3 : w.cell? ⟨b, 3, none⟩ = some (.int .i64 st) := hb.cell 3
  have c4 : w.cell? ⟨b, 4, none⟩ = some (.int .i64 wa) := hb.cell 4
  have c5 : w.cell? ⟨b, 5, none⟩ = some (.int .i64 qu) := hb.cell 5
  have c6 : w.cell? ⟨b, 6, none⟩ = some (.int .i64 tr) := hb.cell 6
  have f3 := hb.frozen 3
  have f4 := hb.frozen 4
  have f5 := hb.frozen 5
  have f6 := hb.frozen 6
  have HB := Lib.hid hb
  clear hb
  go_enter Try.func33, Try.ntmps33
  go_wp2
  refine bodyPost_ret (v := Y.val quietY) ?_ rfl ⟨rfl, ?_, ?_⟩
  · simp [results, Try.results33, go_sem, quietY, askY, goneY, c001, c301, c00, c12, Y.val, cNone]
  · repeat (with_reducible first | exact HB.out | apply Blk.alloc | apply Blk.drewN | apply Blk.drew | apply Blk.set_eq | apply Blk.far_ (Nat.ne_of_lt hlt))
    all_goals rfl
  · repeat (with_reducible first | exact only_refl _ _ | refine only_alloc ?_ _ | refine only_drewN ?_ _ | refine only_drew ?_ | refine only_own ?_ _ | refine only_new ?_ _)
set_option maxHeartbeats 1000000 in
theorem rup_iss (hb : Blk w b 65 (S.cells ⟨2, ec, an, st, wa, qu, tr⟩)) :
    Calls Try.prog 33 #[.pointer (some ⟨b, 0, none⟩)] w (TellsR w b ⟨2, ec, an, 2, 0, qu, tr⟩ (askY c001)) := by
  have hlt := hb.lt
  have c0 : w.cell? ⟨b, 0, none⟩ = some (.int .i64 2) := hb.cell 0
  have c1 : w.cell? ⟨b, 1, none⟩ = some (.int .i64 ec) := hb.cell 1
  have c2 : w.cell? ⟨b, 2, none⟩ = some (.int .i64 an) := hb.cell 2
  have c3 : w.cell? ⟨b, 3, none⟩ = some (.int .i64 st) := hb.cell 3
  have c4 : w.cell? ⟨b, 4, none⟩ = some (.int .i64 wa) := hb.cell 4
  have c5 : w.cell? ⟨b, 5, none⟩ = some (.int .i64 qu) := hb.cell 5
  have c6 : w.cell? ⟨b, 6, none⟩ = some (.int .i64 tr) := hb.cell 6
  have f3 := hb.frozen 3
  have f4 := hb.frozen 4
  have f5 := hb.frozen 5
  have f6 := hb.frozen 6
  have HB := Lib.hid hb
  clear hb
  go_enter Try.func33, Try.ntmps33
  go_wp2
  refine bodyPost_ret (v := Y.val (askY c001)) ?_ rfl ⟨rfl, ?_, ?_⟩
  · simp [results, Try.results33, go_sem, quietY, askY, goneY, c001, c301, c00, c12, Y.val, cNone]
  · repeat (with_reducible first | exact HB.out | apply Blk.alloc | apply Blk.drewN | apply Blk.drew | apply Blk.set_eq | apply Blk.far_ (Nat.ne_of_lt hlt))
    all_goals rfl
  · repeat (with_reducible first | exact only_refl _ _ | refine only_alloc ?_ _ | refine only_drewN ?_ _ | refine only_drew ?_ | refine only_own ?_ _ | refine only_new ?_ _)
set_option maxHeartbeats 1000000 in
theorem rtick_idle (hb : Blk w b 65 (S.cells ⟨ro, ec, an, st, wa, qu, tr⟩)) (h2 : (st == 2) = false) (h3 : (st == 3) = false) (h4 : (st == 4) = false) :
    Calls Try.prog 25 #[.pointer (some ⟨b, 0, none⟩)] w (TellsR w b ⟨ro, ec, an, st, wa, qu, tr⟩ quietY) := by
  have hlt := hb.lt
  have c0 : w.cell? ⟨b, 0, none⟩ = some (.int .i64 ro) := hb.cell 0
  have c1 : w.cell? ⟨b, 1, none⟩ = some (.int .i64 ec) := hb.cell 1
  have c2 : w.cell? ⟨b, 2, none⟩ = some (.int .i64 an) := hb.cell 2
  have c3 : w.cell? ⟨b, 3, none⟩ = some (.int .i64 st) := hb.cell 3
  have c4 : w.cell? ⟨b, 4, none⟩ = some (.int .i64 wa) := hb.cell 4
  have c5 : w.cell? ⟨b, 5, none⟩ = some (.int .i64 qu) := hb.cell 5
  have c6 : w.cell? ⟨b, 6, none⟩ = some (.int .i64 tr) := hb.cell 6
  have f3 := hb.frozen 3
  have f4 := hb.frozen 4
  have f5 := hb.frozen 5
  have f6 := hb.frozen 6
  have HB := Lib.hid hb
  clear hb
  go_enter Try.func25, Try.ntmps25
  go_wp2
  refine bodyPost_ret (v := Y.val quietY) ?_ rfl ⟨rfl, ?_, ?_⟩
  · simp [results, Try.results25, go_sem, quietY, askY, goneY, c001, c301, c00, c12, Y.val, cNone]
  · repeat (with_reducible first | exact HB.out | apply Blk.alloc | apply Blk.drewN | apply Blk.drew | apply Blk.set_eq | apply Blk.far_ (Nat.ne_of_lt hlt))
    all_goals rfl
  · repeat (with_reducible first | exact only_refl _ _ | refine only_alloc ?_ _ | refine only_drewN ?_ _ | refine only_drew ?_ | refine only_own ?_ _ | refine only_new ?_ _)
set_option maxHeartbeats 1000000 in
theorem rsign_asks (hb : Blk w b 65 (S.cells ⟨ro, ec, an, 2, wa, qu, tr⟩)) (hw0 : 0 ≤ wa) (hw1 : wa ≤ 1000000) (hl : (wa + 1 == an) = true) :
    Calls Try.prog 25 #[.pointer (some ⟨b, 0, none⟩)] w (TellsR w b ⟨ro, ec, an, 2, 0, qu, tr⟩ (askY c001)) := by
  have hlt := hb.lt
  have c0 : w.cell? ⟨b, 0, none⟩ = some (.int .i64 ro) := hb.cell 0
  have c1 : w.cell? ⟨b, 1, none⟩ = some (.int .i64 ec) := hb.cell 1
  have c2 : w.cell? ⟨b, 2, none⟩ = some (.int .i64 an) := hb.cell 2
  have c3 : w.cell? ⟨b, 3, none⟩ = some (.int .i64 2) := hb.cell 3
  have c4 : w.cell? ⟨b, 4, none⟩ = some (.int .i64 wa) := hb.cell 4
  have c5 : w.cell? ⟨b, 5, none⟩ = some (.int .i64 qu) := hb.cell 5
  have c6 : w.cell? ⟨b, 6, none⟩ = some (.int .i64 tr) := hb.cell 6
  have f3 := hb.frozen 3
  have f4 := hb.frozen 4
  have f5 := hb.frozen 5
  have f6 := hb.frozen 6
  have HB := Lib.hid hb
  clear hb
  go_enter Try.func25, Try.ntmps25
  go_wp2
  go_quiet (fail)
  go_wp2
  refine bodyPost_ret (v := Y.val (askY c001)) ?_ rfl ⟨rfl, ?_, ?_⟩
  · simp [results, Try.results25, go_sem, quietY, askY, goneY, c001, c301, c00, c12, Y.val, cNone]
  · repeat (with_reducible first | exact HB.out | apply Blk.alloc | apply Blk.drewN | apply Blk.drew | apply Blk.set_eq | apply Blk.far_ (Nat.ne_of_lt hlt))
    all_goals rfl
  · repeat (with_reducible first | exact only_refl _ _ | refine only_alloc ?_ _ | refine only_drewN ?_ _ | refine only_drew ?_ | refine only_own ?_ _ | refine only_new ?_ _)
set_option maxHeartbeats 1000000 in
theorem rsign_no (hb : Blk w b 65 (S.cells ⟨ro, ec, an, 2, wa, qu, tr⟩)) (hw0 : 0 ≤ wa) (hw1 : wa ≤ 1000000) (hl : (wa + 1 == an) = false) :
    Calls Try.prog 25 #[.pointer (some ⟨b, 0, none⟩)] w (TellsR w b ⟨ro, ec, an, 2, (wa + 1), qu, tr⟩ quietY) := by
  have hlt := hb.lt
  have c0 : w.cell? ⟨b, 0, none⟩ = some (.int .i64 ro) := hb.cell 0
  have c1 : w.cell? ⟨b, 1, none⟩ = some (.int .i64 ec) := hb.cell 1
  have c2 : w.cell? ⟨b, 2, none⟩ = some (.int .i64 an) := hb.cell 2
  have c3 : w.cell? ⟨b, 3, none⟩ = some (.int .i64 2) := hb.cell 3
  have c4 : w.cell? ⟨b, 4, none⟩ = some (.int .i64 wa) := hb.cell 4
  have c5 : w.cell? ⟨b, 5, none⟩ = some (.int .i64 qu) := hb.cell 5
  have c6 : w.cell? ⟨b, 6, none⟩ = some (.int .i64 tr) := hb.cell 6
  have f3 := hb.frozen 3
  have f4 := hb.frozen 4
  have f5 := hb.frozen 5
  have f6 := hb.frozen 6
  have HB := Lib.hid hb
  clear hb
  go_enter Try.func25, Try.ntmps25
  go_wp2
  go_quiet (fail)
  go_wp2
  refine bodyPost_ret (v := Y.val quietY) ?_ rfl ⟨rfl, ?_, ?_⟩
  · simp [results, Try.results25, go_sem, quietY, askY, goneY, c001, c301, c00, c12, Y.val, cNone]
  · repeat (with_reducible first | exact HB.out | apply Blk.alloc | apply Blk.drewN | apply Blk.drew | apply Blk.set_eq | apply Blk.far_ (Nat.ne_of_lt hlt))
    all_goals rfl
  · repeat (with_reducible first | exact only_refl _ _ | refine only_alloc ?_ _ | refine only_drewN ?_ _ | refine only_drew ?_ | refine only_own ?_ _ | refine only_new ?_ _)
set_option maxHeartbeats 1000000 in
theorem ron_acq (hb : Blk w b 65 (S.cells ⟨1, ec, an, 3, wa, qu, tr⟩)) :
    Calls Try.prog 25 #[.pointer (some ⟨b, 0, none⟩)] w (TellsR w b ⟨1, ec, an, 3, wa, qu, tr⟩ quietY) := by
  have hlt := hb.lt
  have c0 : w.cell? ⟨b, 0, none⟩ = some (.int .i64 1) := hb.cell 0
  have c1 : w.cell? ⟨b, 1, none⟩ = some (.int .i64 ec) := hb.cell 1
  have c2 : w.cell? ⟨b, 2, none⟩ = some (.int .i64 an) := hb.cell 2
  have c3 : w.cell? ⟨b, 3, none⟩ = some (.int .i64 3) := hb.cell 3
  have c4 : w.cell? ⟨b, 4, none⟩ = some (.int .i64 wa) := hb.cell 4
  have c5 : w.cell? ⟨b, 5, none⟩ = some (.int .i64 qu) := hb.cell 5
  have c6 : w.cell? ⟨b, 6, none⟩ = some (.int .i64 tr) := hb.cell 6
  have f3 := hb.frozen 3
  have f4 := hb.frozen 4
  have f5 := hb.frozen 5
  have f6 := hb.frozen 6
  have HB := Lib.hid hb
  clear hb
  go_enter Try.func25, Try.ntmps25
  go_wp2
  refine bodyPost_ret (v := Y.val quietY) ?_ rfl ⟨rfl, ?_, ?_⟩
  · simp [results, Try.results25, go_sem, quietY, askY, goneY, c001, c301, c00, c12, Y.val, cNone]
  · repeat (with_reducible first | exact HB.out | apply Blk.alloc | apply Blk.drewN | apply Blk.drew | apply Blk.set_eq | apply Blk.far_ (Nat.ne_of_lt hlt))
    all_goals rfl
  · repeat (with_reducible first | exact only_refl _ _ | refine only_alloc ?_ _ | refine only_drewN ?_ _ | refine only_drew ?_ | refine only_own ?_ _ | refine only_new ?_ _)
set_option maxHeartbeats 1000000 in
theorem ron_none (hb : Blk w b 65 (S.cells ⟨2, 0, an, 3, wa, qu, tr⟩)) :
    Calls Try.prog 25 #[.pointer (some ⟨b, 0, none⟩)] w (TellsR w b ⟨2, 0, an, 3, wa, qu, tr⟩ quietY) := by
  have hlt := hb.lt
  have c0 : w.cell? ⟨b, 0, none⟩ = some (.int .i64 2) := hb.cell 0
  have c1 : w.cell? ⟨b, 1, none⟩ = some (.int .i64 0) := hb.cell 1
  have c2 : w.cell? ⟨b, 2, none⟩ = some (.int .i64 an) := hb.cell 2
  have c3 : w.cell? ⟨b, 3, none⟩ = some (.int .i64 3) := hb.cell 3
  have c4 : w.cell? ⟨b, 4, none⟩ = some (.int .i64 wa) := hb.cell 4
  have c5 : w.cell? ⟨b, 5, none⟩ = some (.int .i64 qu) := hb.cell 5
  have c6 : w.cell? ⟨b, 6, none⟩ = some (.int .i64 tr) := hb.cell 6
  have f3 := hb.frozen 3
  have f4 := hb.frozen 4
  have f5 := hb.frozen 5
  have f6 := hb.frozen 6
  have HB := Lib.hid hb
  clear hb
  go_enter Try.func25, Try.ntmps25
  go_wp2
  refine bodyPost_ret (v := Y.val quietY) ?_ rfl ⟨rfl, ?_, ?_⟩
  · simp [results, Try.results25, go_sem, quietY, askY, goneY, c001, c301, c00, c12, Y.val, cNone]
  · repeat (with_reducible first | exact HB.out | apply Blk.alloc | apply Blk.drewN | apply Blk.drew | apply Blk.set_eq | apply Blk.far_ (Nat.ne_of_lt hlt))
    all_goals rfl
  · repeat (with_reducible first | exact only_refl _ _ | refine only_alloc ?_ _ | refine only_drewN ?_ _ | refine only_drew ?_ | refine only_own ?_ _ | refine only_new ?_ _)
set_option maxHeartbeats 1000000 in
theorem ron_no (hb : Blk w b 65 (S.cells ⟨2, ec, an, 3, wa, qu, tr⟩)) (he : 0 < ec) (hq0 : 0 ≤ qu) (hq1 : qu ≤ 1000000) (hl : (qu + 1 == ec) = false) :
    Calls Try.prog 25 #[.pointer (some ⟨b, 0, none⟩)] w (TellsR w b ⟨2, ec, an, 3, wa, (qu + 1), tr⟩ quietY) := by
  have hlt := hb.lt
  have c0 : w.cell? ⟨b, 0, none⟩ = some (.int .i64 2) := hb.cell 0
  have c1 : w.cell? ⟨b, 1, none⟩ = some (.int .i64 ec) := hb.cell 1
  have c2 : w.cell? ⟨b, 2, none⟩ = some (.int .i64 an) := hb.cell 2
  have c3 : w.cell? ⟨b, 3, none⟩ = some (.int .i64 3) := hb.cell 3
  have c4 : w.cell? ⟨b, 4, none⟩ = some (.int .i64 wa) := hb.cell 4
  have c5 : w.cell? ⟨b, 5, none⟩ = some (.int .i64 qu) := hb.cell 5
  have c6 : w.cell? ⟨b, 6, none⟩ = some (.int .i64 tr) := hb.cell 6
  have f3 := hb.frozen 3
  have f4 := hb.frozen 4
  have f5 := hb.frozen 5
  have f6 := hb.frozen 6
  have HB := Lib.hid hb
  clear hb
  go_enter Try.func25, Try.ntmps25
  go_wp2
  go_quiet (fail)
  go_wp2
  refine bodyPost_ret (v := Y.val quietY) ?_ rfl ⟨rfl, ?_, ?_⟩
  · simp [results, Try.results25, go_sem, quietY, askY, goneY, c001, c301, c00, c12, Y.val, cNone]
  · repeat (with_reducible first | exact HB.out | apply Blk.alloc | apply Blk.drewN | apply Blk.drew | apply Blk.set_eq | apply Blk.far_ (Nat.ne_of_lt hlt))
    all_goals rfl
  · repeat (with_reducible first | exact only_refl _ _ | refine only_alloc ?_ _ | refine only_drewN ?_ _ | refine only_drew ?_ | refine only_own ?_ _ | refine only_new ?_ _)
set_option maxHeartbeats 1000000 in
theorem ron_asks (hb : Blk w b 65 (S.cells ⟨2, ec, an, 3, wa, qu, tr⟩)) (he : 0 < ec) (hq0 : 0 ≤ qu) (hq1 : qu ≤ 1000000) (hl : (qu + 1 == ec) = true) :
    Calls Try.prog 25 #[.pointer (some ⟨b, 0, none⟩)] w (TellsR w b ⟨2, ec, an, 4, 0, (qu + 1), 1⟩ (askY c301)) := by
  have hlt := hb.lt
  have c0 : w.cell? ⟨b, 0, none⟩ = some (.int .i64 2) := hb.cell 0
  have c1 : w.cell? ⟨b, 1, none⟩ = some (.int .i64 ec) := hb.cell 1
  have c2 : w.cell? ⟨b, 2, none⟩ = some (.int .i64 an) := hb.cell 2
  have c3 : w.cell? ⟨b, 3, none⟩ = some (.int .i64 3) := hb.cell 3
  have c4 : w.cell? ⟨b, 4, none⟩ = some (.int .i64 wa) := hb.cell 4
  have c5 : w.cell? ⟨b, 5, none⟩ = some (.int .i64 qu) := hb.cell 5
  have c6 : w.cell? ⟨b, 6, none⟩ = some (.int .i64 tr) := hb.cell 6
  have f3 := hb.frozen 3
  have f4 := hb.frozen 4
  have f5 := hb.frozen 5
  have f6 := hb.frozen 6
  have HB := Lib.hid hb
  clear hb
  go_enter Try.func25, Try.ntmps25
  go_wp2
  go_quiet (fail)
  go_wp2
  refine bodyPost_ret (v := Y.val (askY c301)) ?_ rfl ⟨rfl, ?_, ?_⟩
  · simp [results, Try.results25, go_sem, quietY, askY, goneY, c001, c301, c00, c12, Y.val, cNone]
  · repeat (with_reducible first | exact HB.out | apply Blk.alloc | apply Blk.drewN | apply Blk.drew | apply Blk.set_eq | apply Blk.far_ (Nat.ne_of_lt hlt))
    all_goals rfl
  · repeat (with_reducible first | exact only_refl _ _ | refine only_alloc ?_ _ | refine only_drewN ?_ _ | refine only_drew ?_ | refine only_own ?_ _ | refine only_new ?_ _)
set_option maxHeartbeats 1000000 in
theorem rtest_no (hb : Blk w b 65 (S.cells ⟨ro, ec, an, 4, wa, qu, tr⟩)) (hw0 : 0 ≤ wa) (hw1 : wa ≤ 1000000) (hl : wa + 1 < an) :
    Calls Try.prog 25 #[.pointer (some ⟨b, 0, none⟩)] w (TellsR w b ⟨ro, ec, an, 4, (wa + 1), qu, tr⟩ quietY) := by
  have hlt := hb.lt
  have c0 : w.cell? ⟨b, 0, none⟩ = some (.int .i64 ro) := hb.cell 0
  have c1 : w.cell? ⟨b, 1, none⟩ = some (.int .i64 ec) := hb.cell 1
  have c2 : w.cell? ⟨b, 2, none⟩ = some (.int .i64 an) := hb.cell 2
  have c3 : w.cell? ⟨b, 3, none⟩ = some (.int .i64 4) := hb.cell 3
  have c4 : w.cell? ⟨b, 4, none⟩ = some (.int .i64 wa) := hb.cell 4
  have c5 : w.cell? ⟨b, 5, none⟩ = some (.int .i64 qu) := hb.cell 5
  have c6 : w.cell? ⟨b, 6, none⟩ = some (.int .i64 tr) := hb.cell 6
  have f3 := hb.frozen 3
  have f4 := hb.frozen 4
  have f5 := hb.frozen 5
  have f6 := hb.frozen 6
  have HB := Lib.hid hb
  clear hb
  go_enter Try.func25, Try.ntmps25
  go_wp2
  go_quiet (fail)
  go_wp2
  refine bodyPost_ret (v := Y.val quietY) ?_ rfl ⟨rfl, ?_, ?_⟩
  · simp [results, Try.results25, go_sem, quietY, askY, goneY, c001, c301, c00, c12, Y.val, cNone]
  · repeat (with_reducible first | exact HB.out | apply Blk.alloc | apply Blk.drewN | apply Blk.drew | apply Blk.set_eq | apply Blk.far_ (Nat.ne_of_lt hlt))
    all_goals rfl
  · repeat (with_reducible first | exact only_refl _ _ | refine only_alloc ?_ _ | refine only_drewN ?_ _ | refine only_drew ?_ | refine only_own ?_ _ | refine only_new ?_ _)
set_option maxHeartbeats 1000000 in
theorem rtest_lost (hb : Blk w b 65 (S.cells ⟨ro, ec, an, 4, wa, qu, 3⟩)) (hw0 : 0 ≤ wa) (hw1 : wa ≤ 1000000) (hl : ¬ wa + 1 < an) :
    Calls Try.prog 25 #[.pointer (some ⟨b, 0, none⟩)] w (TellsR w b ⟨ro, ec, an, 0, (wa + 1), qu, 3⟩ goneY) := by
  have hlt := hb.lt
  have c0 : w.cell? ⟨b, 0, none⟩ = some (.int .i64 ro) := hb.cell 0
  have c1 : w.cell? ⟨b, 1, none⟩ = some (.int .i64 ec) := hb.cell 1
  have c2 : w.cell? ⟨b, 2, none⟩ = some (.int .i64 an) := hb.cell 2
  have c3 : w.cell? ⟨b, 3, none⟩ = some (.int .i64 4) := hb.cell 3
  have c4 : w.cell? ⟨b, 4, none⟩ = some (.int .i64 wa) := hb.cell 4
  have c5 : w.cell? ⟨b, 5, none⟩ = some (.int .i64 qu) := hb.cell 5
  have c6 : w.cell? ⟨b, 6, none⟩ = some (.int .i64 3) := hb.cell 6
  have f3 := hb.frozen 3
  have f4 := hb.frozen 4
  have f5 := hb.frozen 5
  have f6 := hb.frozen 6
  have HB := Lib.hid hb
  clear hb
  go_enter Try.func25, Try.ntmps25
  go_wp2
  go_quiet (fail)
  go_wp2
  refine bodyPost_ret (v := Y.val goneY) ?_ rfl ⟨rfl, ?_, ?_⟩
  · simp [results, Try.results25, go_sem, quietY, askY, goneY, c001, c301, c00, c12, Y.val, cNone]
  · repeat (with_reducible first | exact HB.out | apply Blk.alloc | apply Blk.drewN | apply Blk.drew | apply Blk.set_eq | apply Blk.far_ (Nat.ne_of_lt hlt))
    all_goals rfl
  · repeat (with_reducible first | exact only_refl _ _ | refine only_alloc ?_ _ | refine only_drewN ?_ _ | refine only_drew ?_ | refine only_own ?_ _ | refine only_new ?_ _)
set_option maxHeartbeats 1000000 in
theorem rtest_asks (hb : Blk w b 65 (S.cells ⟨ro, ec, an, 4, wa, qu, tr⟩)) (hw0 : 0 ≤ wa) (hw1 : wa ≤ 1000000) (hl : ¬ wa + 1 < an) (ht : (tr == 3) = false) (ht0 : 0 ≤ tr) (ht1 : tr ≤ 10) :
    Calls Try.prog 25 #[.pointer (some ⟨b, 0, none⟩)] w (TellsR w b ⟨ro, ec, an, 4, 0, qu, (tr + 1)⟩ (askY c301)) := by
  have hlt := hb.lt
  have c0 : w.cell? ⟨b, 0, none⟩ = some (.int .i64 ro) := hb.cell 0
  have c1 : w.cell? ⟨b, 1, none⟩ = some (.int .i64 ec) := hb.cell 1
  have c2 : w.cell? ⟨b, 2, none⟩ = some (.int .i64 an) := hb.cell 2
  have c3 : w.cell? ⟨b, 3, none⟩ = some (.int .i64 4) := hb.cell 3
  have c4 : w.cell? ⟨b, 4, none⟩ = some (.int .i64 wa) := hb.cell 4
  have c5 : w.cell? ⟨b, 5, none⟩ = some (.int .i64 qu) := hb.cell 5
  have c6 : w.cell? ⟨b, 6, none⟩ = some (.int .i64 tr) := hb.cell 6
  have f3 := hb.frozen 3
  have f4 := hb.frozen 4
  have f5 := hb.frozen 5
  have f6 := hb.frozen 6
  have HB := Lib.hid hb
  clear hb
  go_enter Try.func25, Try.ntmps25
  go_wp2
  go_quiet (fail)
  go_wp2
  refine bodyPost_ret (v := Y.val (askY c301)) ?_ rfl ⟨rfl, ?_, ?_⟩
  · simp [results, Try.results25, go_sem, quietY, askY, goneY, c001, c301, c00, c12, Y.val, cNone]
  · repeat (with_reducible first | exact HB.out | apply Blk.alloc | apply Blk.drewN | apply Blk.drew | apply Blk.set_eq | apply Blk.far_ (Nat.ne_of_lt hlt))
    all_goals rfl
  · repeat (with_reducible first | exact only_refl _ _ | refine only_alloc ?_ _ | refine only_drewN ?_ _ | refine only_drew ?_ | refine only_own ?_ _ | refine only_new ?_ _)
set_option maxHeartbeats 1000000 in
theorem ranswered_on (hb : Blk w b 65 (S.cells ⟨ro, ec, an, 2, wa, qu, tr⟩)) (hc : (c.toList == [48, 48, 49]) = true) (ha : (a.toList == [48, 48]) = true) :
    Calls Try.prog 38 #[.pointer (some ⟨b, 0, none⟩), .string c, .string a] w (TellsR w b (heardS ⟨ro, ec, an, 3, wa, qu, tr⟩) quietY) := by
  have hlt := hb.lt
  have c0 : w.cell? ⟨b, 0, none⟩ = some (.int .i64 ro) := hb.cell 0
  have c1 : w.cell? ⟨b, 1, none⟩ = some (.int .i64 ec) := hb.cell 1
  have c2 : w.cell? ⟨b, 2, none⟩ = some (.int .i64 an) := hb.cell 2
  have c3 : w.cell? ⟨b, 3, none⟩ = some (.int .i64 2) := hb.cell 3
  have c4 : w.cell? ⟨b, 4, none⟩ = some (.int .i64 wa) := hb.cell 4
  have c5 : w.cell? ⟨b, 5, none⟩ = some (.int .i64 qu) := hb.cell 5
  have c6 : w.cell? ⟨b, 6, none⟩ = some (.int .i64 tr) := hb.cell 6
  have f3 := hb.frozen 3
  have f4 := hb.frozen 4
  have f5 := hb.frozen 5
  have f6 := hb.frozen 6
  have HB := Lib.hid hb
  clear hb
  go_enter Try.func38, Try.ntmps38
  go_wp2_with (go_at_call 40; refine (came_any b ro ec an 3 wa qu tr _ ((HB.out.set_ 3 (.int .i64 3)).alloc _)).mono ?_; rintro e w1 ⟨rfl, hb1, hg1⟩; have hr : Blk w1 w.heap.size 51 #[.string { data := #[] }, .string { data := #[] }, .bool false] := (Blk.new' (by simp) 51 _).grown hg1 (by intro e; injection e; omega); have hz := hr.lt; have d0 := hr.cell 0; have d1 := hr.cell 1; have d2 := hr.cell 2; have e0 := hr.frozen 0; have e1 := hr.frozen 1; have e2 := hr.frozen 2; simp at d0 d1 d2; have HO := Lib.hid (only_trans (only_alloc (only_own (only_refl w (some b)) _) _) hg1); have HB1 := Lib.hid hb1; clear hb1 hg1 hr)
  refine bodyPost_ret (v := Y.val quietY) ?_ rfl ⟨rfl, ?_, ?_⟩
  · simp [results, Try.results38, go_sem, quietY, askY, goneY, c001, c301, c00, c12, Y.val, cNone, d0, d1, d2]
  · repeat (with_reducible first | exact HB1.out | apply Blk.alloc | apply Blk.drewN | apply Blk.drew | apply Blk.set_eq | apply Blk.far_ (Nat.ne_of_lt hlt))
    all_goals rfl
  · repeat (with_reducible first | exact HO.out | refine only_alloc ?_ _ | refine only_drewN ?_ _ | refine only_drew ?_ | refine only_own ?_ _ | refine only_new ?_ _)
set_option maxHeartbeats 1000000 in
theorem ranswered_echo (hb : Blk w b 65 (S.cells ⟨ro, ec, an, 4, wa, qu, tr⟩)) (hc : (c.toList == [51, 48, 49]) = true) :
    Calls Try.prog 38 #[.pointer (some ⟨b, 0, none⟩), .string c, .string a] w (TellsR w b (heardS ⟨ro, ec, an, 3, wa, qu, tr⟩) quietY) := by
  have hlt := hb.lt
  have c0 : w.cell? ⟨b, 0, none⟩ = some (.int .i64 ro) := hb.cell 0
  have c1 : w.cell? ⟨b, 1, none⟩ = some (.int .i64 ec) := hb.cell 1
  have c2 : w.cell? ⟨b, 2, none⟩ = some (.int .i64 an) := hb.cell 2
  have c3 : w.cell? ⟨b, 3, none⟩ = some (.int .i64 4) := hb.cell 3
  have c4 : w.cell? ⟨b, 4, none⟩ = some (.int .i64 wa) := hb.cell 4
  have c5 : w.cell? ⟨b, 5, none⟩ = some (.int .i64 qu) := hb.cell 5
  have c6 : w.cell? ⟨b, 6, none⟩ = some (.int .i64 tr) := hb.cell 6
  have f3 := hb.frozen 3
  have f4 := hb.frozen 4
  have f5 := hb.frozen 5
  have f6 := hb.frozen 6
  have HB := Lib.hid hb
  clear hb
  go_enter Try.func38, Try.ntmps38
  go_wp2_with (go_at_call 40; refine (came_any b ro ec an 3 wa qu tr _ ((HB.out.set_ 3 (.int .i64 3)).alloc _)).mono ?_; rintro e w1 ⟨rfl, hb1, hg1⟩; have hr : Blk w1 w.heap.size 51 #[.string { data := #[] }, .string { data := #[] }, .bool false] := (Blk.new' (by simp) 51 _).grown hg1 (by intro e; injection e; omega); have hz := hr.lt; have d0 := hr.cell 0; have d1 := hr.cell 1; have d2 := hr.cell 2; have e0 := hr.frozen 0; have e1 := hr.frozen 1; have e2 := hr.frozen 2; simp at d0 d1 d2; have HO := Lib.hid (only_trans (only_alloc (only_own (only_refl w (some b)) _) _) hg1); have HB1 := Lib.hid hb1; clear hb1 hg1 hr)
  refine bodyPost_ret (v := Y.val quietY) ?_ rfl ⟨rfl, ?_, ?_⟩
  · simp [results, Try.results38, go_sem, quietY, askY, goneY, c001, c301, c00, c12, Y.val, cNone, d0, d1, d2]
  · repeat (with_reducible first | exact HB1.out | apply Blk.alloc | apply Blk.drewN | apply Blk.drew | apply Blk.set_eq | apply Blk.far_ (Nat.ne_of_lt hlt))
    all_goals rfl
  · repeat (with_reducible first | exact HO.out | refine only_alloc ?_ _ | refine only_drewN ?_ _ | refine only_drew ?_ | refine only_own ?_ _ | refine only_new ?_ _)
set_option maxHeartbeats 1000000 in
theorem ranswered_no2 (hb : Blk w b 65 (S.cells ⟨ro, ec, an, 2, wa, qu, tr⟩)) (hc : (c.toList == [48, 48, 49]) = false) :
    Calls Try.prog 38 #[.pointer (some ⟨b, 0, none⟩), .string c, .string a] w (TellsR w b (heardS ⟨ro, ec, an, 2, wa, qu, tr⟩) quietY) := by
  have hlt := hb.lt
  have c0 : w.cell? ⟨b, 0, none⟩ = some (.int .i64 ro) := hb.cell 0
  have c1 : w.cell? ⟨b, 1, none⟩ = some (.int .i64 ec) := hb.cell 1
  have c2 : w.cell? ⟨b, 2, none⟩ = some (.int .i64 an) := hb.cell 2
  have c3 : w.cell? ⟨b, 3, none⟩ = some (.int .i64 2) := hb.cell 3
  have c4 : w.cell? ⟨b, 4, none⟩ = some (.int .i64 wa) := hb.cell 4
  have c5 : w.cell? ⟨b, 5, none⟩ = some (.int .i64 qu) := hb.cell 5
  have c6 : w.cell? ⟨b, 6, none⟩ = some (.int .i64 tr) := hb.cell 6
  have f3 := hb.frozen 3
  have f4 := hb.frozen 4
  have f5 := hb.frozen 5
  have f6 := hb.frozen 6
  have HB := Lib.hid hb
  clear hb
  go_enter Try.func38, Try.ntmps38
  go_wp2_with (go_at_call 40; refine (came_any b ro ec an 2 wa qu tr _ (HB.out.alloc _)).mono ?_; rintro e w1 ⟨rfl, hb1, hg1⟩; have hr : Blk w1 w.heap.size 51 #[.string { data := #[] }, .string { data := #[] }, .bool false] := (Blk.new' (by simp) 51 _).grown hg1 (by intro e; injection e; omega); have hz := hr.lt; have d0 := hr.cell 0; have d1 := hr.cell 1; have d2 := hr.cell 2; have e0 := hr.frozen 0; have e1 := hr.frozen 1; have e2 := hr.frozen 2; simp at d0 d1 d2; have HO := Lib.hid (only_trans (only_alloc (only_refl w (some b)) _) hg1); have HB1 := Lib.hid hb1; clear hb1 hg1 hr)
  refine bodyPost_ret (v := Y.val quietY) ?_ rfl ⟨rfl, ?_, ?_⟩
  · simp [results, Try.results38, go_sem, quietY, askY, goneY, c001, c301, c00, c12, Y.val, cNone, d0, d1, d2]
  · repeat (with_reducible first | exact HB1.out | apply Blk.alloc | apply Blk.drewN | apply Blk.drew | apply Blk.set_eq | apply Blk.far_ (Nat.ne_of_lt hlt))
    all_goals rfl
  · repeat (with_reducible first | exact HO.out | refine only_alloc ?_ _ | refine only_drewN ?_ _ | refine only_drew ?_ | refine only_own ?_ _ | refine only_new ?_ _)
set_option maxHeartbeats 1000000 in
theorem ranswered_no2a (hb : Blk w b 65 (S.cells ⟨ro, ec, an, 2, wa, qu, tr⟩)) (hc : (c.toList == [48, 48, 49]) = true) (ha : (a.toList == [48, 48]) = false) :
    Calls Try.prog 38 #[.pointer (some ⟨b, 0, none⟩), .string c, .string a] w (TellsR w b (heardS ⟨ro, ec, an, 2, wa, qu, tr⟩) quietY) := by
  have hlt := hb.lt
  have c0 : w.cell? ⟨b, 0, none⟩ = some (.int .i64 ro) := hb.cell 0
  have c1 : w.cell? ⟨b, 1, none⟩ = some (.int .i64 ec) := hb.cell 1
  have c2 : w.cell? ⟨b, 2, none⟩ = some (.int .i64 an) := hb.cell 2
  have c3 : w.cell? ⟨b, 3, none⟩ = some (.int .i64 2) := hb.cell 3
  have c4 : w.cell? ⟨b, 4, none⟩ = some (.int .i64 wa) := hb.cell 4
  have c5 : w.cell? ⟨b, 5, none⟩ = some (.int .i64 qu) := hb.cell 5
  have c6 : w.cell? ⟨b, 6, none⟩ = some (.int .i64 tr) := hb.cell 6
  have f3 := hb.frozen 3
  have f4 := hb.frozen 4
  have f5 := hb.frozen 5
  have f6 := hb.frozen 6
  have HB := Lib.hid hb
  clear hb
  go_enter Try.func38, Try.ntmps38
  go_wp2_with (go_at_call 40; refine (came_any b ro ec an 2 wa qu tr _ (HB.out.alloc _)).mono ?_; rintro e w1 ⟨rfl, hb1, hg1⟩; have hr : Blk w1 w.heap.size 51 #[.string { data := #[] }, .string { data := #[] }, .bool false] := (Blk.new' (by simp) 51 _).grown hg1 (by intro e; injection e; omega); have hz := hr.lt; have d0 := hr.cell 0; have d1 := hr.cell 1; have d2 := hr.cell 2; have e0 := hr.frozen 0; have e1 := hr.frozen 1; have e2 := hr.frozen 2; simp at d0 d1 d2; have HO := Lib.hid (only_trans (only_alloc (only_refl w (some b)) _) hg1); have HB1 := Lib.hid hb1; clear hb1 hg1 hr)
  refine bodyPost_ret (v := Y.val quietY) ?_ rfl ⟨rfl, ?_, ?_⟩
  · simp [results, Try.results38, go_sem, quietY, askY, goneY, c001, c301, c00, c12, Y.val, cNone, d0, d1, d2]
  · repeat (with_reducible first | exact HB1.out | apply Blk.alloc | apply Blk.drewN | apply Blk.drew | apply Blk.set_eq | apply Blk.far_ (Nat.ne_of_lt hlt))
    all_goals rfl
  · repeat (with_reducible first | exact HO.out | refine only_alloc ?_ _ | refine only_drewN ?_ _ | refine only_drew ?_ | refine only_own ?_ _ | refine only_new ?_ _)
set_option maxHeartbeats 1000000 in
theorem ranswered_no4 (hb : Blk w b 65 (S.cells ⟨ro, ec, an, 4, wa, qu, tr⟩)) (hc : (c.toList == [51, 48, 49]) = false) :
    Calls Try.prog 38 #[.pointer (some ⟨b, 0, none⟩), .string c, .string a] w (TellsR w b (heardS ⟨ro, ec, an, 4, wa, qu, tr⟩) quietY) := by
  have hlt := hb.lt
  have c0 : w.cell? ⟨b, 0, none⟩ = some (.int .i64 ro) := hb.cell 0
  have c1 : w.cell? ⟨b, 1, none⟩ = some (.int .i64 ec) := hb.cell 1
  have c2 : w.cell? ⟨b, 2, none⟩ = some (.int .i64 an) := hb.cell 2
  have c3 : w.cell? ⟨b, 3, none⟩ = some (.int .i64 4) := hb.cell 3
  have c4 : w.cell? ⟨b, 4, none⟩ = some (.int .i64 wa) := hb.cell 4
  have c5 : w.cell? ⟨b, 5, none⟩ = some (.int .i64 qu) := hb.cell 5
  have c6 : w.cell? ⟨b, 6, none⟩ = some (.int .i64 tr) := hb.cell 6
  have f3 := hb.frozen 3
  have f4 := hb.frozen 4
  have f5 := hb.frozen 5
  have f6 := hb.frozen 6
  have HB := Lib.hid hb
  clear hb
  go_enter Try.func38, Try.ntmps38
  go_wp2_with (go_at_call 40; refine (came_any b ro ec an 4 wa qu tr _ (HB.out.alloc _)).mono ?_; rintro e w1 ⟨rfl, hb1, hg1⟩; have hr : Blk w1 w.heap.size 51 #[.string { data := #[] }, .string { data := #[] }, .bool false] := (Blk.new' (by simp) 51 _).grown hg1 (by intro e; injection e; omega); have hz := hr.lt; have d0 := hr.cell 0; have d1 := hr.cell 1; have d2 := hr.cell 2; have e0 := hr.frozen 0; have e1 := hr.frozen 1; have e2 := hr.frozen 2; simp at d0 d1 d2; have HO := Lib.hid (only_trans (only_alloc (only_refl w (some b)) _) hg1); have HB1 := Lib.hid hb1; clear hb1 hg1 hr)
  refine bodyPost_ret (v := Y.val quietY) ?_ rfl ⟨rfl, ?_, ?_⟩
  · simp [results, Try.results38, go_sem, quietY, askY, goneY, c001, c301, c00, c12, Y.val, cNone, d0, d1, d2]
  · repeat (with_reducible first | exact HB1.out | apply Blk.alloc | apply Blk.drewN | apply Blk.drew | apply Blk.set_eq | apply Blk.far_ (Nat.ne_of_lt hlt))
    all_goals rfl
  · repeat (with_reducible first | exact HO.out | refine only_alloc ?_ _ | refine only_drewN ?_ _ | refine only_drew ?_ | refine only_own ?_ _ | refine only_new ?_ _)
set_option maxHeartbeats 1000000 in
theorem ranswered_no (hb : Blk w b 65 (S.cells ⟨ro, ec, an, st, wa, qu, tr⟩)) (h2 : (st == 2) = false) (h4 : (st == 4) = false) :
    Calls Try.prog 38 #[.pointer (some ⟨b, 0, none⟩), .string c, .string a] w (TellsR w b (heardS ⟨ro, ec, an, st, wa, qu, tr⟩) quietY) := by
  have hlt := hb.lt
  have c0 : w.cell? ⟨b, 0, none⟩ = some (.int .i64 ro) := hb.cell 0
  have c1 : w.cell? ⟨b, 1, none⟩ = some (.int .i64 ec) := hb.cell 1
  have c2 : w.cell? ⟨b, 2, none⟩ = some (.int .i64 an) := hb.cell 2
  have c3 : w.cell? ⟨b, 3, none⟩ = some (.int .i64 st) := hb.cell 3
  have c4 : w.cell? ⟨b, 4, none⟩ = some (.int .i64 wa) := hb.cell 4
  have c5 : w.cell? ⟨b, 5, none⟩ = some (.int .i64 qu) := hb.cell 5
  have c6 : w.cell? ⟨b, 6, none⟩ = some (.int .i64 tr) := hb.cell 6
  have f3 := hb.frozen 3
  have f4 := hb.frozen 4
  have f5 := hb.frozen 5
  have f6 := hb.frozen 6
  have HB := Lib.hid hb
  clear hb
  go_enter Try.func38, Try.ntmps38
  go_wp2_with (go_at_call 40; refine (came_any b ro ec an st wa qu tr _ (HB.out.alloc _)).mono ?_; rintro e w1 ⟨rfl, hb1, hg1⟩; have hr : Blk w1 w.heap.size 51 #[.string { data := #[] }, .string { data := #[] }, .bool false] := (Blk.new' (by simp) 51 _).grown hg1 (by intro e; injection e; omega); have hz := hr.lt; have d0 := hr.cell 0; have d1 := hr.cell 1; have d2 := hr.cell 2; have e0 := hr.frozen 0; have e1 := hr.frozen 1; have e2 := hr.frozen 2; simp at d0 d1 d2; have HO := Lib.hid (only_trans (only_alloc (only_refl w (some b)) _) hg1); have HB1 := Lib.hid hb1; clear hb1 hg1 hr)
  refine bodyPost_ret (v := Y.val quietY) ?_ rfl ⟨rfl, ?_, ?_⟩
  · simp [results, Try.results38, go_sem, quietY, askY, goneY, c001, c301, c00, c12, Y.val, cNone, d0, d1, d2]
  · repeat (with_reducible first | exact HB1.out | apply Blk.alloc | apply Blk.drewN | apply Blk.drew | apply Blk.set_eq | apply Blk.far_ (Nat.ne_of_lt hlt))
    all_goals rfl
  · repeat (with_reducible first | exact HO.out | refine only_alloc ?_ _ | refine only_drewN ?_ _ | refine only_drew ?_ | refine only_own ?_ _ | refine only_new ?_ _)
set_option maxHeartbeats 1000000 in
theorem rasked_down (hb : Blk w b 65 (S.cells ⟨ro, ec, an, 0, wa, qu, tr⟩)) :
    Calls Try.prog 37 #[.pointer (some ⟨b, 0, none⟩), .string c] w (TellsR w b ⟨ro, ec, an, 0, wa, qu, tr⟩ quietY) := by
  have hlt := hb.lt
  have c0 : w.cell? ⟨b, 0, none⟩ = some (.int .i64 ro) := hb.cell 0
  have c1 : w.cell? ⟨b, 1, none⟩ = some (.int .i64 ec) := hb.cell 1
  have c2 : w.cell? ⟨b, 2, none⟩ = some (.int .i64 an) := hb.cell 2
  have c3 : w.cell? ⟨b, 3, none⟩ = some (.int .i64 0) := hb.cell 3
  have c4 : w.cell? ⟨b, 4, none⟩ = some (.int .i64 wa) := hb.cell 4
  have c5 : w.cell? ⟨b, 5, none⟩ = some (.int .i64 qu) := hb.cell 5
  have c6 : w.cell? ⟨b, 6, none⟩ = some (.int .i64 tr) := hb.cell 6
  have f3 := hb.frozen 3
  have f4 := hb.frozen 4
  have f5 := hb.frozen 5
  have f6 := hb.frozen 6
  have HB := Lib.hid hb
  clear hb
  go_enter Try.func37, Try.ntmps37
  go_wp2
  refine bodyPost_ret (v := Y.val quietY) ?_ rfl ⟨rfl, ?_, ?_⟩
  · simp [results, Try.results37, go_sem, quietY, askY, goneY, c001, c301, c00, c12, Y.val, cNone]
  · repeat (with_reducible first | exact HB.out | apply Blk.alloc | apply Blk.drewN | apply Blk.drew | apply Blk.set_eq | apply Blk.far_ (Nat.ne_of_lt hlt))
    all_goals rfl
  · repeat (with_reducible first | exact only_refl _ _ | refine only_alloc ?_ _ | refine only_drewN ?_ _ | refine only_drew ?_ | refine only_own ?_ _ | refine only_new ?_ _)
set_option maxHeartbeats 1000000 in
theorem rasked_on (hb : Blk w b 65 (S.cells ⟨1, ec, an, st, wa, qu, tr⟩)) (h0 : (st == 0) = false) (h1 : (c.toList == [48, 48, 49]) = true) :
    Calls Try.prog 37 #[.pointer (some ⟨b, 0, none⟩), .string c] w (TellsR w b (heardS ⟨1, ec, an, 3, wa, qu, tr⟩) ⟨c, c00, false⟩) := by
  have hlt := hb.lt
  have c0 : w.cell? ⟨b, 0, none⟩ = some (.int .i64 1) := hb.cell 0
  have c1 : w.cell? ⟨b, 1, none⟩ = some (.int .i64 ec) := hb.cell 1
  have c2 : w.cell? ⟨b, 2, none⟩ = some (.int .i64 an) := hb.cell 2
  have c3 : w.cell? ⟨b, 3, none⟩ = some (.int .i64 st) := hb.cell 3
  have c4 : w.cell? ⟨b, 4, none⟩ = some (.int .i64 wa) := hb.cell 4
  have c5 : w.cell? ⟨b, 5, none⟩ = some (.int .i64 qu) := hb.cell 5
  have c6 : w.cell? ⟨b, 6, none⟩ = some (.int .i64 tr) := hb.cell 6
  have f3 := hb.frozen 3
  have f4 := hb.frozen 4
  have f5 := hb.frozen 5
  have f6 := hb.frozen 6
  have HB := Lib.hid hb
  clear hb
  go_enter Try.func37, Try.ntmps37
  go_wp2_with (go_at_call 40; refine (came_any b 1 ec an 3 wa qu tr _ ((HB.out.set_ 3 (.int .i64 3)).alloc _)).mono ?_; rintro e w1 ⟨rfl, hb1, hg1⟩; have hr : Blk w1 w.heap.size 51 #[.string { data := #[] }, .string { data := #[] }, .bool false] := (Blk.new' (by simp) 51 _).grown hg1 (by intro e; injection e; omega); have hz := hr.lt; have d0 := hr.cell 0; have d1 := hr.cell 1; have d2 := hr.cell 2; have e0 := hr.frozen 0; have e1 := hr.frozen 1; have e2 := hr.frozen 2; simp at d0 d1 d2; have HO := Lib.hid (only_trans (only_alloc (only_own (only_refl w (some b)) _) _) hg1); have HB1 := Lib.hid hb1; clear hb1 hg1 hr)
  refine bodyPost_ret (v := Y.val ⟨c, c00, false⟩) ?_ rfl ⟨rfl, ?_, ?_⟩
  · simp [results, Try.results37, go_sem, quietY, askY, goneY, c001, c301, c00, c12, Y.val, cNone, d0, d1, d2]
  · repeat (with_reducible first | exact HB1.out | apply Blk.alloc | apply Blk.drewN | apply Blk.drew | apply Blk.set_eq | apply Blk.far_ (Nat.ne_of_lt hlt))
    all_goals rfl
  · repeat (with_reducible first | exact HO.out | refine only_alloc ?_ _ | refine only_drewN ?_ _ | refine only_drew ?_ | refine only_own ?_ _ | refine only_new ?_ _)
set_option maxHeartbeats 1000000 in
theorem rasked_refused (hb : Blk w b 65 (S.cells ⟨2, ec, an, st, wa, qu, tr⟩)) (h0 : (st == 0) = false) (h1 : (c.toList == [48, 48, 49]) = true) :
    Calls Try.prog 37 #[.pointer (some ⟨b, 0, none⟩), .string c] w (TellsR w b (heardS ⟨2, ec, an, st, wa, qu, tr⟩) ⟨c, c12, false⟩) := by
  have hlt := hb.lt
  have c0 : w.cell? ⟨b, 0, none⟩ = some (.int .i64 2) := hb.cell 0
  have c1 : w.cell? ⟨b, 1, none⟩ = some (.int .i64 ec) := hb.cell 1
  have c2 : w.cell? ⟨b, 2, none⟩ = some (.int .i64 an) := hb.cell 2
  have c3 : w.cell? ⟨b, 3, none⟩ = some (.int .i64 st) := hb.cell 3
  have c4 : w.cell? ⟨b, 4, none⟩ = some (.int .i64 wa) := hb.cell 4
  have c5 : w.cell? ⟨b, 5, none⟩ = some (.int .i64 qu) := hb.cell 5
  have c6 : w.cell? ⟨b, 6, none⟩ = some (.int .i64 tr) := hb.cell 6
  have f3 := hb.frozen 3
  have f4 := hb.frozen 4
  have f5 := hb.frozen 5
  have f6 := hb.frozen 6
  have HB := Lib.hid hb
  clear hb
  go_enter Try.func37, Try.ntmps37
  go_wp2_with (go_at_call 40; refine (came_any b 2 ec an st wa qu tr _ (HB.out.alloc _)).mono ?_; rintro e w1 ⟨rfl, hb1, hg1⟩; have hr : Blk w1 w.heap.size 51 #[.string { data := #[] }, .string { data := #[] }, .bool false] := (Blk.new' (by simp) 51 _).grown hg1 (by intro e; injection e; omega); have hz := hr.lt; have d0 := hr.cell 0; have d1 := hr.cell 1; have d2 := hr.cell 2; have e0 := hr.frozen 0; have e1 := hr.frozen 1; have e2 := hr.frozen 2; simp at d0 d1 d2; have HO := Lib.hid (only_trans (only_alloc (only_refl w (some b)) _) hg1); have HB1 := Lib.hid hb1; clear hb1 hg1 hr)
  refine bodyPost_ret (v := Y.val ⟨c, c12, false⟩) ?_ rfl ⟨rfl, ?_, ?_⟩
  · simp [results, Try.results37, go_sem, quietY, askY, goneY, c001, c301, c00, c12, Y.val, cNone, d0, d1, d2]
  · repeat (with_reducible first | exact HB1.out | apply Blk.alloc | apply Blk.drewN | apply Blk.drew | apply Blk.set_eq | apply Blk.far_ (Nat.ne_of_lt hlt))
    all_goals rfl
  · repeat (with_reducible first | exact HO.out | refine only_alloc ?_ _ | refine only_drewN ?_ _ | refine only_drew ?_ | refine only_own ?_ _ | refine only_new ?_ _)
set_option maxHeartbeats 1000000 in
theorem rasked_off (hb : Blk w b 65 (S.cells ⟨ro, ec, an, st, wa, qu, tr⟩)) (h0 : (st == 0) = false) (h1 : (c.toList == [48, 48, 49]) = false) (h2 : (c.toList == [48, 48, 50]) = true) :
    Calls Try.prog 37 #[.pointer (some ⟨b, 0, none⟩), .string c] w (TellsR w b (heardS ⟨ro, ec, an, 1, wa, qu, tr⟩) ⟨c, c00, false⟩) := by
  have hlt := hb.lt
  have c0 : w.cell? ⟨b, 0, none⟩ = some (.int .i64 ro) := hb.cell 0
  have c1 : w.cell? ⟨b, 1, none⟩ = some (.int .i64 ec) := hb.cell 1
  have c2 : w.cell? ⟨b, 2, none⟩ = some (.int .i64 an) := hb.cell 2
  have c3 : w.cell? ⟨b, 3, none⟩ = some (.int .i64 st) := hb.cell 3
  have c4 : w.cell? ⟨b, 4, none⟩ = some (.int .i64 wa) := hb.cell 4
  have c5 : w.cell? ⟨b, 5, none⟩ = some (.int .i64 qu) := hb.cell 5
  have c6 : w.cell? ⟨b, 6, none⟩ = some (.int .i64 tr) := hb.cell 6
  have f3 := hb.frozen 3
  have f4 := hb.frozen 4
  have f5 := hb.frozen 5
  have f6 := hb.frozen 6
  have HB := Lib.hid hb
  clear hb
  go_enter Try.func37, Try.ntmps37
  go_wp2_with (go_at_call 40; refine (came_any b ro ec an 1 wa qu tr _ ((HB.out.set_ 3 (.int .i64 1)).alloc _)).mono ?_; rintro e w1 ⟨rfl, hb1, hg1⟩; have hr : Blk w1 w.heap.size 51 #[.string { data := #[] }, .string { data := #[] }, .bool false] := (Blk.new' (by simp) 51 _).grown hg1 (by intro e; injection e; omega); have hz := hr.lt; have d0 := hr.cell 0; have d1 := hr.cell 1; have d2 := hr.cell 2; have e0 := hr.frozen 0; have e1 := hr.frozen 1; have e2 := hr.frozen 2; simp at d0 d1 d2; have HO := Lib.hid (only_trans (only_alloc (only_own (only_refl w (some b)) _) _) hg1); have HB1 := Lib.hid hb1; clear hb1 hg1 hr)
  refine bodyPost_ret (v := Y.val ⟨c, c00, false⟩) ?_ rfl ⟨rfl, ?_, ?_⟩
  · simp [results, Try.results37, go_sem, quietY, askY, goneY, c001, c301, c00, c12, Y.val, cNone, d0, d1, d2]
  · repeat (with_reducible first | exact HB1.out | apply Blk.alloc | apply Blk.drewN | apply Blk.drew | apply Blk.set_eq | apply Blk.far_ (Nat.ne_of_lt hlt))
    all_goals rfl
  · repeat (with_reducible first | exact HO.out | refine only_alloc ?_ _ | refine only_drewN ?_ _ | refine only_drew ?_ | refine only_own ?_ _ | refine only_new ?_ _)
set_option maxHeartbeats 1000000 in
theorem rasked_key (hb : Blk w b 65 (S.cells ⟨ro, ec, an, st, wa, qu, tr⟩)) (h0 : (st == 0) = false) (h1 : (c.toList == [48, 48, 49]) = false) (h2 : (c.toList == [48, 48, 50]) = false) (h3 : (c.toList == [49, 48, 49]) = true) :
    Calls Try.prog 37 #[.pointer (some ⟨b, 0, none⟩), .string c] w (TellsR w b (heardS ⟨ro, ec, an, st, wa, qu, tr⟩) ⟨c, c00, false⟩) := by
  have hlt := hb.lt
  have c0 : w.cell? ⟨b, 0, none⟩ = some (.int .i64 ro) := hb.cell 0
  have c1 : w.cell? ⟨b, 1, none⟩ = some (.int .i64 ec) := hb.cell 1
  have c2 : w.cell? ⟨b, 2, none⟩ = some (.int .i64 an) := hb.cell 2
  have c3 : w.cell? ⟨b, 3, none⟩ = some (.int .i64 st) := hb.cell 3
  have c4 : w.cell? ⟨b, 4, none⟩ = some (.int .i64 wa) := hb.cell 4
  have c5 : w.cell? ⟨b, 5, none⟩ = some (.int .i64 qu) := hb.cell 5
  have c6 : w.cell? ⟨b, 6, none⟩ = some (.int .i64 tr) := hb.cell 6
  have f3 := hb.frozen 3
  have f4 := hb.frozen 4
  have f5 := hb.frozen 5
  have f6 := hb.frozen 6
  have HB := Lib.hid hb
  clear hb
  go_enter Try.func37, Try.ntmps37
  go_wp2_with (go_at_call 40; refine (came_any b ro ec an st wa qu tr _ (HB.out.alloc _)).mono ?_; rintro e w1 ⟨rfl, hb1, hg1⟩; have hr : Blk w1 w.heap.size 51 #[.string { data := #[] }, .string { data := #[] }, .bool false] := (Blk.new' (by simp) 51 _).grown hg1 (by intro e; injection e; omega); have hz := hr.lt; have d0 := hr.cell 0; have d1 := hr.cell 1; have d2 := hr.cell 2; have e0 := hr.frozen 0; have e1 := hr.frozen 1; have e2 := hr.frozen 2; simp at d0 d1 d2; have HO := Lib.hid (only_trans (only_alloc (only_refl w (some b)) _) hg1); have HB1 := Lib.hid hb1; clear hb1 hg1 hr)
  refine bodyPost_ret (v := Y.val ⟨c, c00, false⟩) ?_ rfl ⟨rfl, ?_, ?_⟩
  · simp [results, Try.results37, go_sem, quietY, askY, goneY, c001, c301, c00, c12, Y.val, cNone, d0, d1, d2]
  · repeat (with_reducible first | exact HB1.out | apply Blk.alloc | apply Blk.drewN | apply Blk.drew | apply Blk.set_eq | apply Blk.far_ (Nat.ne_of_lt hlt))
    all_goals rfl
  · repeat (with_reducible first | exact HO.out | refine only_alloc ?_ _ | refine only_drewN ?_ _ | refine only_drew ?_ | refine only_own ?_ _ | refine only_new ?_ _)
set_option maxHeartbeats 1000000 in
theorem rasked_echo (hb : Blk w b 65 (S.cells ⟨ro, ec, an, st, wa, qu, tr⟩)) (h0 : (st == 0) = false) (h1 : (c.toList == [48, 48, 49]) = false) (h2 : (c.toList == [48, 48, 50]) = false) (h3 : (c.toList == [49, 48, 49]) = false) (h4 : (c.toList == [51, 48, 49]) = true) :
    Calls Try.prog 37 #[.pointer (some ⟨b, 0, none⟩), .string c] w (TellsR w b (heardS ⟨ro, ec, an, st, wa, qu, tr⟩) ⟨c, c00, false⟩) := by
  have hlt := hb.lt
  have c0 : w.cell? ⟨b, 0, none⟩ = some (.int .i64 ro) := hb.cell 0
  have c1 : w.cell? ⟨b, 1, none⟩ = some (.int .i64 ec) := hb.cell 1
  have c2 : w.cell? ⟨b, 2, none⟩ = some (.int .i64 an) := hb.cell 2
  have c3 : w.cell? ⟨b, 3, none⟩ = some (.int .i64 st) := hb.cell 3
  have c4 : w.cell? ⟨b, 4, none⟩ = some (.int .i64 wa) := hb.cell 4
  have c5 : w.cell? ⟨b, 5, none⟩ = some (.int .i64 qu) := hb.cell 5
  have c6 : w.cell? ⟨b, 6, none⟩ = some (.int .i64 tr) := hb.cell 6
  have f3 := hb.frozen 3
  have f4 := hb.frozen 4
  have f5 := hb.frozen 5
  have f6 := hb.frozen 6
  have HB := Lib.hid hb
  clear hb
  go_enter Try.func37, Try.ntmps37
  go_wp2_with (go_at_call 40; refine (came_any b ro ec an st wa qu tr _ (HB.out.alloc _)).mono ?_; rintro e w1 ⟨rfl, hb1, hg1⟩; have hr : Blk w1 w.heap.size 51 #[.string { data := #[] }, .string { data := #[] }, .bool false] := (Blk.new' (by simp) 51 _).grown hg1 (by intro e; injection e; omega); have hz := hr.lt; have d0 := hr.cell 0; have d1 := hr.cell 1; have d2 := hr.cell 2; have e0 := hr.frozen 0; have e1 := hr.frozen 1; have e2 := hr.frozen 2; simp at d0 d1 d2; have HO := Lib.hid (only_trans (only_alloc (only_refl w (some b)) _) hg1); have HB1 := Lib.hid hb1; clear hb1 hg1 hr)
  refine bodyPost_ret (v := Y.val ⟨c, c00, false⟩) ?_ rfl ⟨rfl, ?_, ?_⟩
  · simp [results, Try.results37, go_sem, quietY, askY, goneY, c001, c301, c00, c12, Y.val, cNone, d0, d1, d2]
  · repeat (with_reducible first | exact HB1.out | apply Blk.alloc | apply Blk.drewN | apply Blk.drew | apply Blk.set_eq | apply Blk.far_ (Nat.ne_of_lt hlt))
    all_goals rfl
  · repeat (with_reducible first | exact HO.out | refine only_alloc ?_ _ | refine only_drewN ?_ _ | refine only_drew ?_ | refine only_own ?_ _ | refine only_new ?_ _)
set_option maxHeartbeats 1000000 in
theorem rasked_other (hb : Blk w b 65 (S.cells ⟨ro, ec, an, st, wa, qu, tr⟩)) (h0 : (st == 0) = false) (h1 : (c.toList == [48, 48, 49]) = false) (h2 : (c.toList == [48, 48, 50]) = false) (h3 : (c.toList == [49, 48, 49]) = false) (h4 : (c.toList == [51, 48, 49]) = false) :
    Calls Try.prog 37 #[.pointer (some ⟨b, 0, none⟩), .string c] w (TellsR w b (heardS ⟨ro, ec, an, st, wa, qu, tr⟩) ⟨c, c12, false⟩) := by
  have hlt := hb.lt
  have c0 : w.cell? ⟨b, 0, none⟩ = some (.int .i64 ro) := hb.cell 0
  have c1 : w.cell? ⟨b, 1, none⟩ = some (.int .i64 ec) := hb.cell 1
  have c2 : w.cell? ⟨b, 2, none⟩ = some (.int .i64 an) := hb.cell 2
  have c3 : w.cell? ⟨b, 3, none⟩ = some (.int .i64 st) := hb.cell 3
  have c4 : w.cell? ⟨b, 4, none⟩ = some (.int .i64 wa) := hb.cell 4
  have c5 : w.cell? ⟨b, 5, none⟩ = some (.int .i64 qu) := hb.cell 5
  have c6 : w.cell? ⟨b, 6, none⟩ = some (.int .i64 tr) := hb.cell 6
  have f3 := hb.frozen 3
  have f4 := hb.frozen 4
  have f5 := hb.frozen 5
  have f6 := hb.frozen 6
  have HB := Lib.hid hb
  clear hb
  go_enter Try.func37, Try.ntmps37
  go_wp2_with (go_at_call 40; refine (came_any b ro ec an st wa qu tr _ (HB.out.alloc _)).mono ?_; rintro e w1 ⟨rfl, hb1, hg1⟩; have hr : Blk w1 w.heap.size 51 #[.string { data := #[] }, .string { data := #[] }, .bool false] := (Blk.new' (by simp) 51 _).grown hg1 (by intro e; injection e; omega); have hz := hr.lt; have d0 := hr.cell 0; have d1 := hr.cell 1; have d2 := hr.cell 2; have e0 := hr.frozen 0; have e1 := hr.frozen 1; have e2 := hr.frozen 2; simp at d0 d1 d2; have HO := Lib.hid (only_trans (only_alloc (only_refl w (some b)) _) hg1); have HB1 := Lib.hid hb1; clear hb1 hg1 hr)
  refine bodyPost_ret (v := Y.val ⟨c, c12, false⟩) ?_ rfl ⟨rfl, ?_, ?_⟩
  · simp [results, Try.results37, go_sem, quietY, askY, goneY, c001, c301, c00, c12, Y.val, cNone, d0, d1, d2]
  · repeat (with_reducible first | exact HB1.out | apply Blk.alloc | apply Blk.drewN | apply Blk.drew | apply Blk.set_eq | apply Blk.far_ (Nat.ne_of_lt hlt))
    all_goals rfl
  · repeat (with_reducible first | exact HO.out | refine only_alloc ?_ _ | refine only_drewN ?_ _ | refine only_drew ?_ | refine only_own ?_ _ | refine only_new ?_ _)
end
theorem rnew_ok (ro ec an : Int) (w : World) (hr : ro = 1 ∨ ro = 2) (he0 : 0 ≤ ec) (he1 : ec ≤ 100000) (ha0 : 1 ≤ an) (ha1 : an ≤ 100000) :
    Calls Try.prog 21 #[.int .i64 ro, .int .i64 ec, .int .i64 an] w fun e w' => e = .returned (.tuple #[.pointer (some ⟨w.heap.size, 0, none⟩), .int .i64 0]) ∧ w' = w.alloc (.cells (S.cells ⟨ro, ec, an, 0, 0, 0, 0⟩) 65) := by
  rcases hr with rfl | rfl
  all_goals
    go_enter Try.func21, Try.ntmps21
    go_wp2
    go_ret2
    exact ⟨rfl, rfl⟩
def badN (ro ec an : Int) : Bool := (ro != 1 && ro != 2) || ec < 0 || 100000 < ec || an < 1 || 100000 < an
set_option maxHeartbeats 1000000 in
theorem new_bad19 (ro ec an : Int) (w : World) (h : badN ro ec an = true) :
    Calls Try.prog 19 #[.int .i64 ro, .int .i64 ec, .int .i64 an] w fun e w' => e = .returned (.tuple #[.pointer none, .int .i64 1]) ∧ w' = w := by
  unfold badN at h
  obtain ⟨x1, e1⟩ : ∃ x, (ro != 1) = x := ⟨_, rfl⟩
  obtain ⟨x2, e2⟩ : ∃ x, (ro != 2) = x := ⟨_, rfl⟩
  obtain ⟨x3, e3⟩ : ∃ x, decide (ec < 0) = x := ⟨_, rfl⟩
  obtain ⟨x4, e4⟩ : ∃ x, decide (100000 < ec) = x := ⟨_, rfl⟩
  obtain ⟨x5, e5⟩ : ∃ x, decide (an < 1) = x := ⟨_, rfl⟩
  obtain ⟨x6, e6⟩ : ∃ x, decide (100000 < an) = x := ⟨_, rfl⟩
  rw [e1, e2, e3, e4, e5, e6] at h
  cases x1 <;> cases x2 <;> cases x3 <;> cases x4 <;> cases x5 <;> cases x6 <;> first | (exact absurd h (by decide)) | skip
  all_goals
    go_enter Try.func19, Try.ntmps19
    go_wp2
    go_ret2
    exact ⟨rfl, rfl⟩
set_option maxHeartbeats 1000000 in
theorem new_bad21 (ro ec an : Int) (w : World) (h : badN ro ec an = true) :
    Calls Try.prog 21 #[.int .i64 ro, .int .i64 ec, .int .i64 an] w fun e w' => e = .returned (.tuple #[.pointer none, .int .i64 1]) ∧ w' = w := by
  unfold badN at h
  obtain ⟨x1, e1⟩ : ∃ x, (ro != 1) = x := ⟨_, rfl⟩
  obtain ⟨x2, e2⟩ : ∃ x, (ro != 2) = x := ⟨_, rfl⟩
  obtain ⟨x3, e3⟩ : ∃ x, decide (ec < 0) = x := ⟨_, rfl⟩
  obtain ⟨x4, e4⟩ : ∃ x, decide (100000 < ec) = x := ⟨_, rfl⟩
  obtain ⟨x5, e5⟩ : ∃ x, decide (an < 1) = x := ⟨_, rfl⟩
  obtain ⟨x6, e6⟩ : ∃ x, decide (100000 < an) = x := ⟨_, rfl⟩
  rw [e1, e2, e3, e4, e5, e6] at h
  cases x1 <;> cases x2 <;> cases x3 <;> cases x4 <;> cases x5 <;> cases x6 <;> first | (exact absurd h (by decide)) | skip
  all_goals
    go_enter Try.func21, Try.ntmps21
    go_wp2
    go_ret2
    exact ⟨rfl, rfl⟩
set_option maxHeartbeats 1000000 in
theorem same_yes (c a : ByteArray) (l : Bool) (w : World) :
    Calls Try.prog 26 #[.agg #[.string c, .string a, .bool l], .agg #[.string c, .string a, .bool l]] w fun e w' => e = .returned (.bool true) ∧ Below w.heap.size w w' := by
  go_enter Try.func26, Try.ntmps26
  go_wp2
  go_ret
  exact ⟨by simp, ((Below.refl _ _).alloc (Nat.le_refl _) _).alloc (by simp) _⟩
end Go.Proofs.Ytcdikjomiomnpaa
