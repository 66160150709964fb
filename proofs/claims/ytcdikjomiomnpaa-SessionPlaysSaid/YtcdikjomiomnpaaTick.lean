/-
  The session's ticks, each state's by its contract, and Tick, which calls a method value.
-/
import Derived.Test.YtcdikjomiomnpaaLeaf
namespace Go.Proofs.Ytcdikjomiomnpaa
open Go.RowKit
set_option linter.unusedSimpArgs false
section
variable (b : Nat) (ro ec an st wa qu tr : Int) (w : World)
set_option maxHeartbeats 400000 in
theorem idle_any (hb : Blk w b 63 (S.cells ⟨ro, ec, an, st, wa, qu, tr⟩)) :
    Calls Try.prog 29 #[.pointer (some ⟨b, 0, none⟩)] w (Tells w b ⟨ro, ec, an, st, wa, qu, tr⟩ quietY) := by
  have hlt := hb.lt
  have HB := Lib.hid hb
  clear hb
  go_enter Try.func29, Try.ntmps29
  go_wp2
  refine bodyPost_ret (v := Y.val quietY) ?_ rfl ⟨rfl, ?_, ?_⟩
  · simp [results, Try.results29, go_sem, quietY, askY, goneY, c001, c301, Y.val, cNone]
  · repeat (with_reducible first | exact HB.out | apply Blk.alloc | apply Blk.drewN | apply Blk.drew | apply Blk.set_eq | apply Blk.far_ (Nat.ne_of_lt hlt))
  · repeat (with_reducible first | exact only_refl _ _ | refine only_alloc ?_ _ | refine only_drewN ?_ _ | refine only_drew ?_ | refine only_own ?_ _ | refine only_new ?_ _)
set_option maxHeartbeats 400000 in
theorem signing_no (hb : Blk w b 63 (S.cells ⟨ro, ec, an, 2, wa, qu, tr⟩)) (hw0 : 0 ≤ wa) (hw1 : wa ≤ 1000000) (hl : wa + 1 < an) :
    Calls Try.prog 30 #[.pointer (some ⟨b, 0, none⟩)] w (Tells w b ⟨ro, ec, an, 2, wa + 1, qu, tr⟩ quietY) := by
  have hlt := hb.lt
  have HB := Lib.hid hb
  clear hb
  go_enter Try.func30, Try.ntmps30
  go_wp2_with (go_at_call 39; refine (waited_no b ro  ec  an  2  wa  qu  tr _ (HB.out.alloc _) hw0 hw1 hl).mono ?_; rintro e w1 ⟨rfl, hb1, hg1⟩; have hr : Blk w1 w.heap.size 27 #[.string { data := #[] }, .string { data := #[] }, .bool false] := (Blk.new w 27 _).grown hg1 (by intro e; injection e; omega); have hz := hr.lt; have d0 := hr.cell 0; have d1 := hr.cell 1; have d2 := hr.cell 2; have e0 := hr.frozen 0; have e1 := hr.frozen 1; have e2 := hr.frozen 2; simp at d0 d1 d2; have HO := Lib.hid (only_trans (only_alloc (only_refl w (some b)) _) hg1); have HB1 := Lib.hid hb1; clear hb1 hg1 hr)
  refine bodyPost_ret (v := Y.val quietY) ?_ rfl ⟨rfl, ?_, ?_⟩
  · simp [results, Try.results30, go_sem, quietY, askY, goneY, c001, c301, Y.val, cNone, d0, d1, d2]
  · repeat (with_reducible first | exact HB1.out | apply Blk.alloc | apply Blk.drewN | apply Blk.drew | apply Blk.set_eq | apply Blk.far_ (Nat.ne_of_lt hlt))
  · repeat (with_reducible first | exact HO.out | refine only_alloc ?_ _ | refine only_drewN ?_ _ | refine only_drew ?_ | refine only_own ?_ _ | refine only_new ?_ _)
set_option maxHeartbeats 400000 in
theorem signing_asks (hb : Blk w b 63 (S.cells ⟨ro, ec, an, 2, wa, qu, tr⟩)) (hw0 : 0 ≤ wa) (hw1 : wa ≤ 1000000) (hl : ¬ wa + 1 < an) :
    Calls Try.prog 30 #[.pointer (some ⟨b, 0, none⟩)] w (Tells w b ⟨ro, ec, an, 2, 0, qu, tr⟩ (askY c001)) := by
  have hlt := hb.lt
  have HB := Lib.hid hb
  clear hb
  go_enter Try.func30, Try.ntmps30
  go_wp2_with (go_at_call 39; refine (waited_yes b ro  ec  an  2  wa  qu  tr _ (HB.out.alloc _) hw0 hw1 hl).mono ?_; rintro e w1 ⟨rfl, hb1, hg1⟩; have hr : Blk w1 w.heap.size 27 #[.string { data := #[] }, .string { data := #[] }, .bool false] := (Blk.new w 27 _).grown hg1 (by intro e; injection e; omega); have hz := hr.lt; have d0 := hr.cell 0; have d1 := hr.cell 1; have d2 := hr.cell 2; have e0 := hr.frozen 0; have e1 := hr.frozen 1; have e2 := hr.frozen 2; simp at d0 d1 d2; have HO := Lib.hid (only_trans (only_alloc (only_refl w (some b)) _) hg1); have HB1 := Lib.hid hb1; clear hb1 hg1 hr)
  refine bodyPost_ret (v := Y.val (askY c001)) ?_ rfl ⟨rfl, ?_, ?_⟩
  · simp [results, Try.results30, go_sem, quietY, askY, goneY, c001, c301, Y.val, cNone, d0, d1, d2]
  · repeat (with_reducible first | exact HB1.out | apply Blk.alloc | apply Blk.drewN | apply Blk.drew | apply Blk.set_eq | apply Blk.far_ (Nat.ne_of_lt hlt))
  · repeat (with_reducible first | exact HO.out | refine only_alloc ?_ _ | refine only_drewN ?_ _ | refine only_drew ?_ | refine only_own ?_ _ | refine only_new ?_ _)
set_option maxHeartbeats 400000 in
theorem testing_no (hb : Blk w b 63 (S.cells ⟨ro, ec, an, 4, wa, qu, tr⟩)) (hw0 : 0 ≤ wa) (hw1 : wa ≤ 1000000) (hl : wa + 1 < an) :
    Calls Try.prog 32 #[.pointer (some ⟨b, 0, none⟩)] w (Tells w b ⟨ro, ec, an, 4, wa + 1, qu, tr⟩ quietY) := by
  have hlt := hb.lt
  have HB := Lib.hid hb
  clear hb
  go_enter Try.func32, Try.ntmps32
  go_wp2_with (go_at_call 39; refine (waited_no b ro  ec  an  4  wa  qu  tr _ (HB.out.alloc _) hw0 hw1 hl).mono ?_; rintro e w1 ⟨rfl, hb1, hg1⟩; have hr : Blk w1 w.heap.size 27 #[.string { data := #[] }, .string { data := #[] }, .bool false] := (Blk.new w 27 _).grown hg1 (by intro e; injection e; omega); have hz := hr.lt; have d0 := hr.cell 0; have d1 := hr.cell 1; have d2 := hr.cell 2; have e0 := hr.frozen 0; have e1 := hr.frozen 1; have e2 := hr.frozen 2; simp at d0 d1 d2; have HO := Lib.hid (only_trans (only_alloc (only_refl w (some b)) _) hg1); have HB1 := Lib.hid hb1; clear hb1 hg1 hr)
  refine bodyPost_ret (v := Y.val quietY) ?_ rfl ⟨rfl, ?_, ?_⟩
  · simp [results, Try.results32, go_sem, quietY, askY, goneY, c001, c301, Y.val, cNone, d0, d1, d2]
  · repeat (with_reducible first | exact HB1.out | apply Blk.alloc | apply Blk.drewN | apply Blk.drew | apply Blk.set_eq | apply Blk.far_ (Nat.ne_of_lt hlt))
  · repeat (with_reducible first | exact HO.out | refine only_alloc ?_ _ | refine only_drewN ?_ _ | refine only_drew ?_ | refine only_own ?_ _ | refine only_new ?_ _)
set_option maxHeartbeats 400000 in
theorem testing_lost (hb : Blk w b 63 (S.cells ⟨ro, ec, an, 4, wa, qu, 3⟩)) (hw0 : 0 ≤ wa) (hw1 : wa ≤ 1000000) (hl : ¬ wa + 1 < an) :
    Calls Try.prog 32 #[.pointer (some ⟨b, 0, none⟩)] w (Tells w b ⟨ro, ec, an, 0, 0, qu, 3⟩ goneY) := by
  have hlt := hb.lt
  have HB := Lib.hid hb
  clear hb
  go_enter Try.func32, Try.ntmps32
  go_wp2_with (go_at_call 39; refine (waited_yes b ro  ec  an  4  wa  qu  3 _ (HB.out.alloc _) hw0 hw1 hl).mono ?_; rintro e w1 ⟨rfl, hb1, hg1⟩; have hr : Blk w1 w.heap.size 27 #[.string { data := #[] }, .string { data := #[] }, .bool false] := (Blk.new w 27 _).grown hg1 (by intro e; injection e; omega); have hz := hr.lt; have d0 := hr.cell 0; have d1 := hr.cell 1; have d2 := hr.cell 2; have e0 := hr.frozen 0; have e1 := hr.frozen 1; have e2 := hr.frozen 2; simp at d0 d1 d2; have HO := Lib.hid (only_trans (only_alloc (only_refl w (some b)) _) hg1); have q6 : w1.cell? ⟨b, 6, none⟩ = some (.int .i64 3) := hb1.cell 6; have q3 : w1.cell? ⟨b, 3, none⟩ = some (.int .i64 4) := hb1.cell 3; have g3 := hb1.frozen 3; have g6 := hb1.frozen 6; have HB1 := Lib.hid hb1; clear hb1 hg1 hr)
  refine bodyPost_ret (v := Y.val goneY) ?_ rfl ⟨rfl, ?_, ?_⟩
  · simp [results, Try.results32, go_sem, quietY, askY, goneY, c001, c301, Y.val, cNone, d0, d1, d2]
  · repeat (with_reducible first | exact HB1.out | apply Blk.alloc | apply Blk.drewN | apply Blk.drew | apply Blk.set_eq | apply Blk.far_ (Nat.ne_of_lt hlt))
    all_goals rfl
  · repeat (with_reducible first | exact HO.out | refine only_alloc ?_ _ | refine only_drewN ?_ _ | refine only_drew ?_ | refine only_own ?_ _ | refine only_new ?_ _)
set_option maxHeartbeats 400000 in
theorem testing_asks (hb : Blk w b 63 (S.cells ⟨ro, ec, an, 4, wa, qu, tr⟩)) (hw0 : 0 ≤ wa) (hw1 : wa ≤ 1000000) (hl : ¬ wa + 1 < an) (ht : (tr == 3) = false) (ht0 : 0 ≤ tr) (ht1 : tr ≤ 10) :
    Calls Try.prog 32 #[.pointer (some ⟨b, 0, none⟩)] w (Tells w b ⟨ro, ec, an, 4, 0, qu, tr + 1⟩ (askY c301)) := by
  have hlt := hb.lt
  have HB := Lib.hid hb
  clear hb
  go_enter Try.func32, Try.ntmps32
  go_wp2_with (go_at_call 39; refine (waited_yes b ro  ec  an  4  wa  qu  tr _ (HB.out.alloc _) hw0 hw1 hl).mono ?_; rintro e w1 ⟨rfl, hb1, hg1⟩; have hr : Blk w1 w.heap.size 27 #[.string { data := #[] }, .string { data := #[] }, .bool false] := (Blk.new w 27 _).grown hg1 (by intro e; injection e; omega); have hz := hr.lt; have d0 := hr.cell 0; have d1 := hr.cell 1; have d2 := hr.cell 2; have e0 := hr.frozen 0; have e1 := hr.frozen 1; have e2 := hr.frozen 2; simp at d0 d1 d2; have HO := Lib.hid (only_trans (only_alloc (only_refl w (some b)) _) hg1); have q6 : w1.cell? ⟨b, 6, none⟩ = some (.int .i64 tr) := hb1.cell 6; have q3 : w1.cell? ⟨b, 3, none⟩ = some (.int .i64 4) := hb1.cell 3; have g3 := hb1.frozen 3; have g6 := hb1.frozen 6; have HB1 := Lib.hid hb1; clear hb1 hg1 hr)
  refine bodyPost_ret (v := Y.val (askY c301)) ?_ rfl ⟨rfl, ?_, ?_⟩
  · simp [results, Try.results32, go_sem, quietY, askY, goneY, c001, c301, Y.val, cNone, d0, d1, d2]
  · repeat (with_reducible first | exact HB1.out | apply Blk.alloc | apply Blk.drewN | apply Blk.drew | apply Blk.set_eq | apply Blk.far_ (Nat.ne_of_lt hlt))
    all_goals rfl
  · repeat (with_reducible first | exact HO.out | refine only_alloc ?_ _ | refine only_drewN ?_ _ | refine only_drew ?_ | refine only_own ?_ _ | refine only_new ?_ _)
set_option maxHeartbeats 400000 in
theorem on_acq (hb : Blk w b 63 (S.cells ⟨1, ec, an, 3, wa, qu, tr⟩)) :
    Calls Try.prog 31 #[.pointer (some ⟨b, 0, none⟩)] w (Tells w b ⟨1, ec, an, 3, wa, qu, tr⟩ quietY) := by
  have hlt := hb.lt
  have c0 : w.cell? ⟨b, 0, none⟩ = some (.int .i64 1) := hb.cell 0
  have HB := Lib.hid hb
  clear hb
  go_enter Try.func31, Try.ntmps31
  go_wp2
  refine bodyPost_ret (v := Y.val quietY) ?_ rfl ⟨rfl, ?_, ?_⟩
  · simp [results, Try.results31, go_sem, quietY, askY, goneY, c001, c301, Y.val, cNone]
  · repeat (with_reducible first | exact HB.out | apply Blk.alloc | apply Blk.drewN | apply Blk.drew | apply Blk.set_eq | apply Blk.far_ (Nat.ne_of_lt hlt))
  · repeat (with_reducible first | exact only_refl _ _ | refine only_alloc ?_ _ | refine only_drewN ?_ _ | refine only_drew ?_ | refine only_own ?_ _ | refine only_new ?_ _)
set_option maxHeartbeats 400000 in
theorem on_none (hb : Blk w b 63 (S.cells ⟨2, 0, an, 3, wa, qu, tr⟩)) :
    Calls Try.prog 31 #[.pointer (some ⟨b, 0, none⟩)] w (Tells w b ⟨2, 0, an, 3, wa, qu, tr⟩ quietY) := by
  have hlt := hb.lt
  have c0 : w.cell? ⟨b, 0, none⟩ = some (.int .i64 2) := hb.cell 0
  have c1 : w.cell? ⟨b, 1, none⟩ = some (.int .i64 0) := hb.cell 1
  have HB := Lib.hid hb
  clear hb
  go_enter Try.func31, Try.ntmps31
  go_wp2
  refine bodyPost_ret (v := Y.val quietY) ?_ rfl ⟨rfl, ?_, ?_⟩
  · simp [results, Try.results31, go_sem, quietY, askY, goneY, c001, c301, Y.val, cNone]
  · repeat (with_reducible first | exact HB.out | apply Blk.alloc | apply Blk.drewN | apply Blk.drew | apply Blk.set_eq | apply Blk.far_ (Nat.ne_of_lt hlt))
  · repeat (with_reducible first | exact only_refl _ _ | refine only_alloc ?_ _ | refine only_drewN ?_ _ | refine only_drew ?_ | refine only_own ?_ _ | refine only_new ?_ _)
set_option maxHeartbeats 400000 in
theorem on_no (hb : Blk w b 63 (S.cells ⟨2, ec, an, 3, wa, qu, tr⟩)) (he : 0 < ec) (hq0 : 0 ≤ qu) (hq1 : qu ≤ 1000000) (hql : qu + 1 < ec) :
    Calls Try.prog 31 #[.pointer (some ⟨b, 0, none⟩)] w (Tells w b ⟨2, ec, an, 3, wa, qu + 1, tr⟩ quietY) := by
  have hlt := hb.lt
  have c0 : w.cell? ⟨b, 0, none⟩ = some (.int .i64 2) := hb.cell 0
  have c1 : w.cell? ⟨b, 1, none⟩ = some (.int .i64 ec) := hb.cell 1
  have c5 : w.cell? ⟨b, 5, none⟩ = some (.int .i64 qu) := hb.cell 5
  have f5 := hb.frozen 5
  have HB := Lib.hid hb
  clear hb
  go_enter Try.func31, Try.ntmps31
  go_wp2
  go_quiet (fail)
  go_wp2
  refine bodyPost_ret (v := Y.val quietY) ?_ rfl ⟨rfl, ?_, ?_⟩
  · simp [results, Try.results31, go_sem, quietY, askY, goneY, c001, c301, Y.val, cNone]
  · repeat (with_reducible first | exact HB.out | apply Blk.alloc | apply Blk.drewN | apply Blk.drew | apply Blk.set_eq | apply Blk.far_ (Nat.ne_of_lt hlt))
    all_goals rfl
  · repeat (with_reducible first | exact only_refl _ _ | refine only_alloc ?_ _ | refine only_drewN ?_ _ | refine only_drew ?_ | refine only_own ?_ _ | refine only_new ?_ _)
set_option maxHeartbeats 400000 in
theorem on_asks (hb : Blk w b 63 (S.cells ⟨2, ec, an, 3, wa, qu, tr⟩)) (he : 0 < ec) (hq0 : 0 ≤ qu) (hq1 : qu ≤ 1000000) (hql : ¬ qu + 1 < ec) :
    Calls Try.prog 31 #[.pointer (some ⟨b, 0, none⟩)] w (Tells w b ⟨2, ec, an, 4, 0, qu + 1, 1⟩ (askY c301)) := by
  have hlt := hb.lt
  have c0 : w.cell? ⟨b, 0, none⟩ = some (.int .i64 2) := hb.cell 0
  have c1 : w.cell? ⟨b, 1, none⟩ = some (.int .i64 ec) := hb.cell 1
  have c5 : w.cell? ⟨b, 5, none⟩ = some (.int .i64 qu) := hb.cell 5
  have c3 : w.cell? ⟨b, 3, none⟩ = some (.int .i64 3) := hb.cell 3
  have c4 : w.cell? ⟨b, 4, none⟩ = some (.int .i64 wa) := hb.cell 4
  have c6 : w.cell? ⟨b, 6, none⟩ = some (.int .i64 tr) := hb.cell 6
  have f3 := hb.frozen 3
  have f4 := hb.frozen 4
  have f5 := hb.frozen 5
  have f6 := hb.frozen 6
  have HB := Lib.hid hb
  clear hb
  go_enter Try.func31, Try.ntmps31
  go_wp2
  go_quiet (fail)
  go_wp2
  refine bodyPost_ret (v := Y.val (askY c301)) ?_ rfl ⟨rfl, ?_, ?_⟩
  · simp [results, Try.results31, go_sem, quietY, askY, goneY, c001, c301, Y.val, cNone]
  · repeat (with_reducible first | exact HB.out | apply Blk.alloc | apply Blk.drewN | apply Blk.drew | apply Blk.set_eq | apply Blk.far_ (Nat.ne_of_lt hlt))
    all_goals rfl
  · repeat (with_reducible first | exact only_refl _ _ | refine only_alloc ?_ _ | refine only_drewN ?_ _ | refine only_drew ?_ | refine only_own ?_ _ | refine only_new ?_ _)
set_option maxHeartbeats 400000 in
theorem tick_of_idle (s' : S) (yc ya : ByteArray) (yl : Bool) (h2 : (st == 2) = false) (h3 : (st == 3) = false) (h4 : (st == 4) = false) (hb : Blk w b 63 (S.cells ⟨ro, ec, an, st, wa, qu, tr⟩))
    (HC : ∀ W, Blk W b 63 (S.cells ⟨ro, ec, an, st, wa, qu, tr⟩) → Calls Try.prog 29 #[.pointer (some ⟨b, 0, none⟩)] W (Tells W b s' ⟨yc, ya, yl⟩)) :
    Calls Try.prog 11 #[.pointer (some ⟨b, 0, none⟩)] w (Tells w b s' ⟨yc, ya, yl⟩) := by
  have hlt := hb.lt
  have c3 : w.cell? ⟨b, 3, none⟩ = some (.int .i64 st) := hb.cell 3
  have HB := Lib.hid hb
  have HCH := Lib.hid HC
  clear hb HC
  go_enter Try.func11, Try.ntmps11
  go_wp2_with (go_at_call 29; refine (HCH.out _ (HB.out.alloc _)).mono ?_; rintro e w1 ⟨rfl, hb1, hg1⟩; have hr : Blk w1 w.heap.size 27 #[.string { data := #[] }, .string { data := #[] }, .bool false] := (Blk.new w 27 _).grown hg1 (by intro e; injection e; omega); have hz := hr.lt; have d0 := hr.cell 0; have d1 := hr.cell 1; have d2 := hr.cell 2; have e0 := hr.frozen 0; have e1 := hr.frozen 1; have e2 := hr.frozen 2; simp at d0 d1 d2; have HO := Lib.hid (only_trans (only_alloc (only_refl w (some b)) _) hg1); have HB1 := Lib.hid hb1; clear hb1 hg1 hr; simp only [Y.val])
  refine bodyPost_ret (v := Y.val ⟨yc, ya, yl⟩) ?_ rfl ⟨rfl, ?_, ?_⟩
  · simp [results, Try.results11, go_sem, Y.val, d0, d1, d2]
  · repeat (with_reducible first | exact HB1.out | apply Blk.alloc | apply Blk.drewN | apply Blk.drew | apply Blk.set_eq | apply Blk.far_ (Nat.ne_of_lt hlt))
  · repeat (with_reducible first | exact HO.out | refine only_alloc ?_ _ | refine only_drewN ?_ _ | refine only_drew ?_ | refine only_own ?_ _ | refine only_new ?_ _)
set_option maxHeartbeats 400000 in
theorem tick_of_signing (s' : S) (yc ya : ByteArray) (yl : Bool) (hb : Blk w b 63 (S.cells ⟨ro, ec, an, 2, wa, qu, tr⟩))
    (HC : ∀ W, Blk W b 63 (S.cells ⟨ro, ec, an, 2, wa, qu, tr⟩) → Calls Try.prog 30 #[.pointer (some ⟨b, 0, none⟩)] W (Tells W b s' ⟨yc, ya, yl⟩)) :
    Calls Try.prog 11 #[.pointer (some ⟨b, 0, none⟩)] w (Tells w b s' ⟨yc, ya, yl⟩) := by
  have hlt := hb.lt
  have c3 : w.cell? ⟨b, 3, none⟩ = some (.int .i64 2) := hb.cell 3
  have HB := Lib.hid hb
  have HCH := Lib.hid HC
  clear hb HC
  go_enter Try.func11, Try.ntmps11
  go_wp2_with (go_at_call 30; refine (HCH.out _ (HB.out.alloc _)).mono ?_; rintro e w1 ⟨rfl, hb1, hg1⟩; have hr : Blk w1 w.heap.size 27 #[.string { data := #[] }, .string { data := #[] }, .bool false] := (Blk.new w 27 _).grown hg1 (by intro e; injection e; omega); have hz := hr.lt; have d0 := hr.cell 0; have d1 := hr.cell 1; have d2 := hr.cell 2; have e0 := hr.frozen 0; have e1 := hr.frozen 1; have e2 := hr.frozen 2; simp at d0 d1 d2; have HO := Lib.hid (only_trans (only_alloc (only_refl w (some b)) _) hg1); have HB1 := Lib.hid hb1; clear hb1 hg1 hr; simp only [Y.val])
  refine bodyPost_ret (v := Y.val ⟨yc, ya, yl⟩) ?_ rfl ⟨rfl, ?_, ?_⟩
  · simp [results, Try.results11, go_sem, Y.val, d0, d1, d2]
  · repeat (with_reducible first | exact HB1.out | apply Blk.alloc | apply Blk.drewN | apply Blk.drew | apply Blk.set_eq | apply Blk.far_ (Nat.ne_of_lt hlt))
  · repeat (with_reducible first | exact HO.out | refine only_alloc ?_ _ | refine only_drewN ?_ _ | refine only_drew ?_ | refine only_own ?_ _ | refine only_new ?_ _)
set_option maxHeartbeats 400000 in
theorem tick_of_on (s' : S) (yc ya : ByteArray) (yl : Bool) (hb : Blk w b 63 (S.cells ⟨ro, ec, an, 3, wa, qu, tr⟩))
    (HC : ∀ W, Blk W b 63 (S.cells ⟨ro, ec, an, 3, wa, qu, tr⟩) → Calls Try.prog 31 #[.pointer (some ⟨b, 0, none⟩)] W (Tells W b s' ⟨yc, ya, yl⟩)) :
    Calls Try.prog 11 #[.pointer (some ⟨b, 0, none⟩)] w (Tells w b s' ⟨yc, ya, yl⟩) := by
  have hlt := hb.lt
  have c3 : w.cell? ⟨b, 3, none⟩ = some (.int .i64 3) := hb.cell 3
  have HB := Lib.hid hb
  have HCH := Lib.hid HC
  clear hb HC
  go_enter Try.func11, Try.ntmps11
  go_wp2_with (go_at_call 31; refine (HCH.out _ (HB.out.alloc _)).mono ?_; rintro e w1 ⟨rfl, hb1, hg1⟩; have hr : Blk w1 w.heap.size 27 #[.string { data := #[] }, .string { data := #[] }, .bool false] := (Blk.new w 27 _).grown hg1 (by intro e; injection e; omega); have hz := hr.lt; have d0 := hr.cell 0; have d1 := hr.cell 1; have d2 := hr.cell 2; have e0 := hr.frozen 0; have e1 := hr.frozen 1; have e2 := hr.frozen 2; simp at d0 d1 d2; have HO := Lib.hid (only_trans (only_alloc (only_refl w (some b)) _) hg1); have HB1 := Lib.hid hb1; clear hb1 hg1 hr; simp only [Y.val])
  refine bodyPost_ret (v := Y.val ⟨yc, ya, yl⟩) ?_ rfl ⟨rfl, ?_, ?_⟩
  · simp [results, Try.results11, go_sem, Y.val, d0, d1, d2]
  · repeat (with_reducible first | exact HB1.out | apply Blk.alloc | apply Blk.drewN | apply Blk.drew | apply Blk.set_eq | apply Blk.far_ (Nat.ne_of_lt hlt))
  · repeat (with_reducible first | exact HO.out | refine only_alloc ?_ _ | refine only_drewN ?_ _ | refine only_drew ?_ | refine only_own ?_ _ | refine only_new ?_ _)
set_option maxHeartbeats 400000 in
theorem tick_of_testing (s' : S) (yc ya : ByteArray) (yl : Bool) (hb : Blk w b 63 (S.cells ⟨ro, ec, an, 4, wa, qu, tr⟩))
    (HC : ∀ W, Blk W b 63 (S.cells ⟨ro, ec, an, 4, wa, qu, tr⟩) → Calls Try.prog 32 #[.pointer (some ⟨b, 0, none⟩)] W (Tells W b s' ⟨yc, ya, yl⟩)) :
    Calls Try.prog 11 #[.pointer (some ⟨b, 0, none⟩)] w (Tells w b s' ⟨yc, ya, yl⟩) := by
  have hlt := hb.lt
  have c3 : w.cell? ⟨b, 3, none⟩ = some (.int .i64 4) := hb.cell 3
  have HB := Lib.hid hb
  have HCH := Lib.hid HC
  clear hb HC
  go_enter Try.func11, Try.ntmps11
  go_wp2_with (go_at_call 32; refine (HCH.out _ (HB.out.alloc _)).mono ?_; rintro e w1 ⟨rfl, hb1, hg1⟩; have hr : Blk w1 w.heap.size 27 #[.string { data := #[] }, .string { data := #[] }, .bool false] := (Blk.new w 27 _).grown hg1 (by intro e; injection e; omega); have hz := hr.lt; have d0 := hr.cell 0; have d1 := hr.cell 1; have d2 := hr.cell 2; have e0 := hr.frozen 0; have e1 := hr.frozen 1; have e2 := hr.frozen 2; simp at d0 d1 d2; have HO := Lib.hid (only_trans (only_alloc (only_refl w (some b)) _) hg1); have HB1 := Lib.hid hb1; clear hb1 hg1 hr; simp only [Y.val])
  refine bodyPost_ret (v := Y.val ⟨yc, ya, yl⟩) ?_ rfl ⟨rfl, ?_, ?_⟩
  · simp [results, Try.results11, go_sem, Y.val, d0, d1, d2]
  · repeat (with_reducible first | exact HB1.out | apply Blk.alloc | apply Blk.drewN | apply Blk.drew | apply Blk.set_eq | apply Blk.far_ (Nat.ne_of_lt hlt))
  · repeat (with_reducible first | exact HO.out | refine only_alloc ?_ _ | refine only_drewN ?_ _ | refine only_drew ?_ | refine only_own ?_ _ | refine only_new ?_ _)

theorem tick_any (hb : Blk w b 63 (S.cells ⟨ro, ec, an, st, wa, qu, tr⟩)) (hr : ro = 1 ∨ ro = 2) (he : 0 ≤ ec) (hw0 : 0 ≤ wa) (hw1 : wa ≤ 1000000) (hq0 : 0 ≤ qu) (hq1 : qu ≤ 1000000) (ht0 : 0 ≤ tr) (ht1 : tr ≤ 10) :
    Calls Try.prog 11 #[.pointer (some ⟨b, 0, none⟩)] w (Tells w b (tickS ⟨ro, ec, an, st, wa, qu, tr⟩) (tickY ⟨ro, ec, an, st, wa, qu, tr⟩)) := by
  by_cases k2 : st = 2
  · subst k2
    by_cases hl : wa + 1 < an
    · refine (tick_of_signing b ro ec an wa qu tr w _ _ _ _ hb fun W hW => signing_no b ro ec an wa qu tr W hW hw0 hw1 hl).mono fun e w' h => Tells.of h ?_ ?_
      · simp [tickS, hl]
      · simp [tickY, hl]; rfl
    · refine (tick_of_signing b ro ec an wa qu tr w _ _ _ _ hb fun W hW => signing_asks b ro ec an wa qu tr W hW hw0 hw1 hl).mono fun e w' h => Tells.of h ?_ ?_
      · simp [tickS, hl]
      · simp [tickY, hl]; rfl
  by_cases k3 : st = 3
  · subst k3
    rcases hr with rfl | rfl
    · refine (tick_of_on b 1 ec an wa qu tr w _ _ _ _ hb fun W hW => on_acq b ec an wa qu tr W hW).mono fun e w' h => Tells.of h ?_ ?_
      · simp [tickS]
      · simp [tickY]; rfl
    · by_cases k0 : ec = 0
      · subst k0
        refine (tick_of_on b 2 0 an wa qu tr w _ _ _ _ hb fun W hW => on_none b an wa qu tr W hW).mono fun e w' h => Tells.of h ?_ ?_
        · simp [tickS]
        · simp [tickY]; rfl
      · by_cases hl : qu + 1 < ec
        · refine (tick_of_on b 2 ec an wa qu tr w _ _ _ _ hb fun W hW => on_no b ec an wa qu tr W hW (by omega) hq0 hq1 hl).mono fun e w' h => Tells.of h ?_ ?_
          · simp [tickS, hl, k0]
          · simp [tickY, hl, k0]; rfl
        · refine (tick_of_on b 2 ec an wa qu tr w _ _ _ _ hb fun W hW => on_asks b ec an wa qu tr W hW (by omega) hq0 hq1 hl).mono fun e w' h => Tells.of h ?_ ?_
          · simp [tickS, hl, k0]
          · simp [tickY, hl, k0]; rfl
  by_cases k4 : st = 4
  · subst k4
    by_cases hl : wa + 1 < an
    · refine (tick_of_testing b ro ec an wa qu tr w _ _ _ _ hb fun W hW => testing_no b ro ec an wa qu tr W hW hw0 hw1 hl).mono fun e w' h => Tells.of h ?_ ?_
      · simp [tickS, hl]
      · simp [tickY, hl]; rfl
    · by_cases kt : tr = 3
      · subst kt
        refine (tick_of_testing b ro ec an wa qu 3 w _ _ _ _ hb fun W hW => testing_lost b ro ec an wa qu W hW hw0 hw1 hl).mono fun e w' h => Tells.of h ?_ ?_
        · simp [tickS, hl]
        · simp [tickY, hl]; rfl
      · refine (tick_of_testing b ro ec an wa qu tr w _ _ _ _ hb fun W hW => testing_asks b ro ec an wa qu tr W hW hw0 hw1 hl (by simp [kt]) ht0 ht1).mono fun e w' h => Tells.of h ?_ ?_
        · simp [tickS, hl, kt]
        · simp [tickY, hl, kt]; rfl
  · refine (tick_of_idle b ro ec an st wa qu tr w _ _ _ _ (by simp [k2]) (by simp [k3]) (by simp [k4]) hb fun W hW => idle_any b ro ec an st wa qu tr W hW).mono fun e w' h => Tells.of h ?_ ?_
    · simp [tickS, k2, k3, k4]
    · simp [tickY, k2, k3, k4]; rfl
end
end Go.Proofs.Ytcdikjomiomnpaa
