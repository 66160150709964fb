/-
  Asked and Answered by their contracts.
-/
import Derived.Test.YtcdikjomiomnpaaTick
namespace Go.Proofs.Ytcdikjomiomnpaa
open Go.RowKit
set_option linter.unusedSimpArgs false
set_option linter.unusedVariables false
theorem Blk.new' {w : World} {g : Nat} (h : g = w.heap.size) (t : TypeId) (cs : Array Value) : Blk (w.alloc (.cells cs t)) g t cs := by
  subst h; exact Blk.new w t cs
section
variable (b : Nat) (ro ec an st wa qu tr : Int) (w : World) (c a : ByteArray)
set_option maxHeartbeats 400000 in
theorem answered_on (hb : Blk w b 63 (S.cells ⟨ro, ec, an, 2, wa, qu, tr⟩)) (hc : (c.toList == [48, 48, 49]) = true) (ha : (a.toList == [48, 48]) = true) :
    Calls Try.prog 16 #[.pointer (some ⟨b, 0, none⟩), .string c, .string a] w (Tells w b (heardS ⟨ro, ec, an, 3, wa, qu, tr⟩) quietY) := by
  have hlt := hb.lt
  have c3 : w.cell? ⟨b, 3, none⟩ = some (.int .i64 2) := hb.cell 3
  have f3 := hb.frozen 3
  have HB := Lib.hid hb
  clear hb
  go_enter Try.func16, Try.ntmps16
  go_wp2_with (go_at_call 14; refine (heard_any b ro ec an 3 wa qu tr _ ((HB.out.set_ 3 (.int .i64 3)).alloc _)).mono ?_; rintro e w1 ⟨rfl, hb1, hg1⟩; have hr : Blk w1 w.heap.size 27 #[.string { data := #[] }, .string { data := #[] }, .bool false] := (Blk.new' (by simp) 27 _).grown hg1 (by intro e; injection e; omega); have hz := hr.lt; have d0 := hr.cell 0; have d1 := hr.cell 1; have d2 := hr.cell 2; have e0 := hr.frozen 0; have e1 := hr.frozen 1; have e2 := hr.frozen 2; simp at d0 d1 d2; have HO := Lib.hid (only_trans (only_alloc (only_own (only_refl w (some b)) _) _) hg1); have HB1 := Lib.hid hb1; clear hb1 hg1 hr)
  refine bodyPost_ret (v := Y.val quietY) ?_ rfl ⟨rfl, ?_, ?_⟩
  · simp [results, Try.results16, go_sem, quietY, askY, goneY, c001, c301, c00, c12, Y.val, cNone, d0, d1, d2]
  · repeat (with_reducible first | exact HB1.out | apply Blk.alloc | apply Blk.drewN | apply Blk.drew | apply Blk.set_eq | apply Blk.far_ (Nat.ne_of_lt hlt))
  · repeat (with_reducible first | exact HO.out | refine only_alloc ?_ _ | refine only_drewN ?_ _ | refine only_drew ?_ | refine only_own ?_ _ | refine only_new ?_ _)
set_option maxHeartbeats 400000 in
theorem answered_echo (hb : Blk w b 63 (S.cells ⟨ro, ec, an, 4, wa, qu, tr⟩)) (hc : (c.toList == [51, 48, 49]) = true) :
    Calls Try.prog 16 #[.pointer (some ⟨b, 0, none⟩), .string c, .string a] w (Tells w b (heardS ⟨ro, ec, an, 3, wa, qu, tr⟩) quietY) := by
  have hlt := hb.lt
  have c3 : w.cell? ⟨b, 3, none⟩ = some (.int .i64 4) := hb.cell 3
  have f3 := hb.frozen 3
  have HB := Lib.hid hb
  clear hb
  go_enter Try.func16, Try.ntmps16
  go_wp2_with (go_at_call 14; refine (heard_any b ro ec an 3 wa qu tr _ ((HB.out.set_ 3 (.int .i64 3)).alloc _)).mono ?_; rintro e w1 ⟨rfl, hb1, hg1⟩; have hr : Blk w1 w.heap.size 27 #[.string { data := #[] }, .string { data := #[] }, .bool false] := (Blk.new' (by simp) 27 _).grown hg1 (by intro e; injection e; omega); have hz := hr.lt; have d0 := hr.cell 0; have d1 := hr.cell 1; have d2 := hr.cell 2; have e0 := hr.frozen 0; have e1 := hr.frozen 1; have e2 := hr.frozen 2; simp at d0 d1 d2; have HO := Lib.hid (only_trans (only_alloc (only_own (only_refl w (some b)) _) _) hg1); have HB1 := Lib.hid hb1; clear hb1 hg1 hr)
  refine bodyPost_ret (v := Y.val quietY) ?_ rfl ⟨rfl, ?_, ?_⟩
  · simp [results, Try.results16, go_sem, quietY, askY, goneY, c001, c301, c00, c12, Y.val, cNone, d0, d1, d2]
  · repeat (with_reducible first | exact HB1.out | apply Blk.alloc | apply Blk.drewN | apply Blk.drew | apply Blk.set_eq | apply Blk.far_ (Nat.ne_of_lt hlt))
  · repeat (with_reducible first | exact HO.out | refine only_alloc ?_ _ | refine only_drewN ?_ _ | refine only_drew ?_ | refine only_own ?_ _ | refine only_new ?_ _)
set_option maxHeartbeats 400000 in
theorem answered_no2 (hb : Blk w b 63 (S.cells ⟨ro, ec, an, 2, wa, qu, tr⟩)) (hc : (c.toList == [48, 48, 49]) = false) :
    Calls Try.prog 16 #[.pointer (some ⟨b, 0, none⟩), .string c, .string a] w (Tells w b (heardS ⟨ro, ec, an, 2, wa, qu, tr⟩) quietY) := by
  have hlt := hb.lt
  have c3 : w.cell? ⟨b, 3, none⟩ = some (.int .i64 2) := hb.cell 3
  have f3 := hb.frozen 3
  have HB := Lib.hid hb
  clear hb
  go_enter Try.func16, Try.ntmps16
  go_wp2_with (go_at_call 14; refine (heard_any b ro ec an 2 wa qu tr _ (HB.out.alloc _)).mono ?_; rintro e w1 ⟨rfl, hb1, hg1⟩; have hr : Blk w1 w.heap.size 27 #[.string { data := #[] }, .string { data := #[] }, .bool false] := (Blk.new' (by simp) 27 _).grown hg1 (by intro e; injection e; omega); have hz := hr.lt; have d0 := hr.cell 0; have d1 := hr.cell 1; have d2 := hr.cell 2; have e0 := hr.frozen 0; have e1 := hr.frozen 1; have e2 := hr.frozen 2; simp at d0 d1 d2; have HO := Lib.hid (only_trans (only_alloc (only_refl w (some b)) _) hg1); have HB1 := Lib.hid hb1; clear hb1 hg1 hr)
  refine bodyPost_ret (v := Y.val quietY) ?_ rfl ⟨rfl, ?_, ?_⟩
  · simp [results, Try.results16, go_sem, quietY, askY, goneY, c001, c301, c00, c12, Y.val, cNone, d0, d1, d2]
  · repeat (with_reducible first | exact HB1.out | apply Blk.alloc | apply Blk.drewN | apply Blk.drew | apply Blk.set_eq | apply Blk.far_ (Nat.ne_of_lt hlt))
  · repeat (with_reducible first | exact HO.out | refine only_alloc ?_ _ | refine only_drewN ?_ _ | refine only_drew ?_ | refine only_own ?_ _ | refine only_new ?_ _)
set_option maxHeartbeats 400000 in
theorem answered_no2a (hb : Blk w b 63 (S.cells ⟨ro, ec, an, 2, wa, qu, tr⟩)) (hc : (c.toList == [48, 48, 49]) = true) (ha : (a.toList == [48, 48]) = false) :
    Calls Try.prog 16 #[.pointer (some ⟨b, 0, none⟩), .string c, .string a] w (Tells w b (heardS ⟨ro, ec, an, 2, wa, qu, tr⟩) quietY) := by
  have hlt := hb.lt
  have c3 : w.cell? ⟨b, 3, none⟩ = some (.int .i64 2) := hb.cell 3
  have f3 := hb.frozen 3
  have HB := Lib.hid hb
  clear hb
  go_enter Try.func16, Try.ntmps16
  go_wp2_with (go_at_call 14; refine (heard_any b ro ec an 2 wa qu tr _ (HB.out.alloc _)).mono ?_; rintro e w1 ⟨rfl, hb1, hg1⟩; have hr : Blk w1 w.heap.size 27 #[.string { data := #[] }, .string { data := #[] }, .bool false] := (Blk.new' (by simp) 27 _).grown hg1 (by intro e; injection e; omega); have hz := hr.lt; have d0 := hr.cell 0; have d1 := hr.cell 1; have d2 := hr.cell 2; have e0 := hr.frozen 0; have e1 := hr.frozen 1; have e2 := hr.frozen 2; simp at d0 d1 d2; have HO := Lib.hid (only_trans (only_alloc (only_refl w (some b)) _) hg1); have HB1 := Lib.hid hb1; clear hb1 hg1 hr)
  refine bodyPost_ret (v := Y.val quietY) ?_ rfl ⟨rfl, ?_, ?_⟩
  · simp [results, Try.results16, go_sem, quietY, askY, goneY, c001, c301, c00, c12, Y.val, cNone, d0, d1, d2]
  · repeat (with_reducible first | exact HB1.out | apply Blk.alloc | apply Blk.drewN | apply Blk.drew | apply Blk.set_eq | apply Blk.far_ (Nat.ne_of_lt hlt))
  · repeat (with_reducible first | exact HO.out | refine only_alloc ?_ _ | refine only_drewN ?_ _ | refine only_drew ?_ | refine only_own ?_ _ | refine only_new ?_ _)
set_option maxHeartbeats 400000 in
theorem answered_no4 (hb : Blk w b 63 (S.cells ⟨ro, ec, an, 4, wa, qu, tr⟩)) (hc : (c.toList == [51, 48, 49]) = false) :
    Calls Try.prog 16 #[.pointer (some ⟨b, 0, none⟩), .string c, .string a] w (Tells w b (heardS ⟨ro, ec, an, 4, wa, qu, tr⟩) quietY) := by
  have hlt := hb.lt
  have c3 : w.cell? ⟨b, 3, none⟩ = some (.int .i64 4) := hb.cell 3
  have f3 := hb.frozen 3
  have HB := Lib.hid hb
  clear hb
  go_enter Try.func16, Try.ntmps16
  go_wp2_with (go_at_call 14; refine (heard_any b ro ec an 4 wa qu tr _ (HB.out.alloc _)).mono ?_; rintro e w1 ⟨rfl, hb1, hg1⟩; have hr : Blk w1 w.heap.size 27 #[.string { data := #[] }, .string { data := #[] }, .bool false] := (Blk.new' (by simp) 27 _).grown hg1 (by intro e; injection e; omega); have hz := hr.lt; have d0 := hr.cell 0; have d1 := hr.cell 1; have d2 := hr.cell 2; have e0 := hr.frozen 0; have e1 := hr.frozen 1; have e2 := hr.frozen 2; simp at d0 d1 d2; have HO := Lib.hid (only_trans (only_alloc (only_refl w (some b)) _) hg1); have HB1 := Lib.hid hb1; clear hb1 hg1 hr)
  refine bodyPost_ret (v := Y.val quietY) ?_ rfl ⟨rfl, ?_, ?_⟩
  · simp [results, Try.results16, go_sem, quietY, askY, goneY, c001, c301, c00, c12, Y.val, cNone, d0, d1, d2]
  · repeat (with_reducible first | exact HB1.out | apply Blk.alloc | apply Blk.drewN | apply Blk.drew | apply Blk.set_eq | apply Blk.far_ (Nat.ne_of_lt hlt))
  · repeat (with_reducible first | exact HO.out | refine only_alloc ?_ _ | refine only_drewN ?_ _ | refine only_drew ?_ | refine only_own ?_ _ | refine only_new ?_ _)
set_option maxHeartbeats 400000 in
theorem answered_no (hb : Blk w b 63 (S.cells ⟨ro, ec, an, st, wa, qu, tr⟩)) (h2 : (st == 2) = false) (h4 : (st == 4) = false) :
    Calls Try.prog 16 #[.pointer (some ⟨b, 0, none⟩), .string c, .string a] w (Tells w b (heardS ⟨ro, ec, an, st, wa, qu, tr⟩) quietY) := by
  have hlt := hb.lt
  have c3 : w.cell? ⟨b, 3, none⟩ = some (.int .i64 st) := hb.cell 3
  have f3 := hb.frozen 3
  have HB := Lib.hid hb
  clear hb
  go_enter Try.func16, Try.ntmps16
  go_wp2_with (go_at_call 14; refine (heard_any b ro ec an st wa qu tr _ (HB.out.alloc _)).mono ?_; rintro e w1 ⟨rfl, hb1, hg1⟩; have hr : Blk w1 w.heap.size 27 #[.string { data := #[] }, .string { data := #[] }, .bool false] := (Blk.new' (by simp) 27 _).grown hg1 (by intro e; injection e; omega); have hz := hr.lt; have d0 := hr.cell 0; have d1 := hr.cell 1; have d2 := hr.cell 2; have e0 := hr.frozen 0; have e1 := hr.frozen 1; have e2 := hr.frozen 2; simp at d0 d1 d2; have HO := Lib.hid (only_trans (only_alloc (only_refl w (some b)) _) hg1); have HB1 := Lib.hid hb1; clear hb1 hg1 hr)
  refine bodyPost_ret (v := Y.val quietY) ?_ rfl ⟨rfl, ?_, ?_⟩
  · simp [results, Try.results16, go_sem, quietY, askY, goneY, c001, c301, c00, c12, Y.val, cNone, d0, d1, d2]
  · repeat (with_reducible first | exact HB1.out | apply Blk.alloc | apply Blk.drewN | apply Blk.drew | apply Blk.set_eq | apply Blk.far_ (Nat.ne_of_lt hlt))
  · repeat (with_reducible first | exact HO.out | refine only_alloc ?_ _ | refine only_drewN ?_ _ | refine only_drew ?_ | refine only_own ?_ _ | refine only_new ?_ _)
set_option maxHeartbeats 400000 in
theorem asked_down (hb : Blk w b 63 (S.cells ⟨ro, ec, an, 0, wa, qu, tr⟩)) :
    Calls Try.prog 15 #[.pointer (some ⟨b, 0, none⟩), .string c] w (Tells w b (⟨ro, ec, an, 0, wa, qu, tr⟩) quietY) := by
  have hlt := hb.lt
  have c3 : w.cell? ⟨b, 3, none⟩ = some (.int .i64 0) := hb.cell 3
  have f3 := hb.frozen 3
  have HB := Lib.hid hb
  clear hb
  go_enter Try.func15, Try.ntmps15
  have HB1 := HB
  have HO := Lib.hid (only_refl w (some b))
  go_wp2
  refine bodyPost_ret (v := Y.val quietY) ?_ rfl ⟨rfl, ?_, ?_⟩
  · simp [results, Try.results15, go_sem, quietY, askY, goneY, c001, c301, c00, c12, Y.val, cNone]
  · repeat (with_reducible first | exact HB1.out | apply Blk.alloc | apply Blk.drewN | apply Blk.drew | apply Blk.set_eq | apply Blk.far_ (Nat.ne_of_lt hlt))
  · repeat (with_reducible first | exact HO.out | refine only_alloc ?_ _ | refine only_drewN ?_ _ | refine only_drew ?_ | refine only_own ?_ _ | refine only_new ?_ _)
set_option maxHeartbeats 400000 in
theorem asked_on (hb : Blk w b 63 (S.cells ⟨1, ec, an, st, wa, qu, tr⟩)) (h0 : (st == 0) = false) (h1 : (c.toList == [48, 48, 49]) = true) :
    Calls Try.prog 15 #[.pointer (some ⟨b, 0, none⟩), .string c] w (Tells w b (heardS ⟨1, ec, an, 3, wa, qu, tr⟩) ⟨c, c00, false⟩) := by
  have hlt := hb.lt
  have c0 : w.cell? ⟨b, 0, none⟩ = some (.int .i64 1) := hb.cell 0
  have c3 : w.cell? ⟨b, 3, none⟩ = some (.int .i64 st) := hb.cell 3
  have f3 := hb.frozen 3
  have HB := Lib.hid hb
  clear hb
  go_enter Try.func15, Try.ntmps15
  go_wp2_with (go_at_call 14; refine (heard_any b 1 ec an 3 wa qu tr _ ((HB.out.set_ 3 (.int .i64 3)).alloc _)).mono ?_; rintro e w1 ⟨rfl, hb1, hg1⟩; have hr : Blk w1 w.heap.size 27 #[.string { data := #[] }, .string { data := #[] }, .bool false] := (Blk.new' (by simp) 27 _).grown hg1 (by intro e; injection e; omega); have hz := hr.lt; have d0 := hr.cell 0; have d1 := hr.cell 1; have d2 := hr.cell 2; have e0 := hr.frozen 0; have e1 := hr.frozen 1; have e2 := hr.frozen 2; simp at d0 d1 d2; have HO := Lib.hid (only_trans (only_alloc (only_own (only_refl w (some b)) _) _) hg1); have HB1 := Lib.hid hb1; clear hb1 hg1 hr)
  refine bodyPost_ret (v := Y.val ⟨c, c00, false⟩) ?_ rfl ⟨rfl, ?_, ?_⟩
  · simp [results, Try.results15, go_sem, quietY, askY, goneY, c001, c301, c00, c12, Y.val, cNone, d0, d1, d2]
  · repeat (with_reducible first | exact HB1.out | apply Blk.alloc | apply Blk.drewN | apply Blk.drew | apply Blk.set_eq | apply Blk.far_ (Nat.ne_of_lt hlt))
  · repeat (with_reducible first | exact HO.out | refine only_alloc ?_ _ | refine only_drewN ?_ _ | refine only_drew ?_ | refine only_own ?_ _ | refine only_new ?_ _)
set_option maxHeartbeats 400000 in
theorem asked_refused (hb : Blk w b 63 (S.cells ⟨2, ec, an, st, wa, qu, tr⟩)) (h0 : (st == 0) = false) (h1 : (c.toList == [48, 48, 49]) = true) (h2 : (c.toList == [48, 48, 50]) = false) (h3 : (c.toList == [49, 48, 49]) = false) (h4 : (c.toList == [51, 48, 49]) = false) :
    Calls Try.prog 15 #[.pointer (some ⟨b, 0, none⟩), .string c] w (Tells w b (heardS ⟨2, ec, an, st, wa, qu, tr⟩) ⟨c, c12, false⟩) := by
  have hlt := hb.lt
  have c0 : w.cell? ⟨b, 0, none⟩ = some (.int .i64 2) := hb.cell 0
  have c3 : w.cell? ⟨b, 3, none⟩ = some (.int .i64 st) := hb.cell 3
  have f3 := hb.frozen 3
  have HB := Lib.hid hb
  clear hb
  go_enter Try.func15, Try.ntmps15
  go_wp2_with (go_at_call 14; refine (heard_any b 2 ec an st wa qu tr _ (HB.out.alloc _)).mono ?_; rintro e w1 ⟨rfl, hb1, hg1⟩; have hr : Blk w1 w.heap.size 27 #[.string { data := #[] }, .string { data := #[] }, .bool false] := (Blk.new' (by simp) 27 _).grown hg1 (by intro e; injection e; omega); have hz := hr.lt; have d0 := hr.cell 0; have d1 := hr.cell 1; have d2 := hr.cell 2; have e0 := hr.frozen 0; have e1 := hr.frozen 1; have e2 := hr.frozen 2; simp at d0 d1 d2; have HO := Lib.hid (only_trans (only_alloc (only_refl w (some b)) _) hg1); have HB1 := Lib.hid hb1; clear hb1 hg1 hr)
  refine bodyPost_ret (v := Y.val ⟨c, c12, false⟩) ?_ rfl ⟨rfl, ?_, ?_⟩
  · simp [results, Try.results15, go_sem, quietY, askY, goneY, c001, c301, c00, c12, Y.val, cNone, d0, d1, d2]
  · repeat (with_reducible first | exact HB1.out | apply Blk.alloc | apply Blk.drewN | apply Blk.drew | apply Blk.set_eq | apply Blk.far_ (Nat.ne_of_lt hlt))
  · repeat (with_reducible first | exact HO.out | refine only_alloc ?_ _ | refine only_drewN ?_ _ | refine only_drew ?_ | refine only_own ?_ _ | refine only_new ?_ _)
set_option maxHeartbeats 400000 in
theorem asked_off (hb : Blk w b 63 (S.cells ⟨ro, ec, an, st, wa, qu, tr⟩)) (h0 : (st == 0) = false) (h1 : (c.toList == [48, 48, 49]) = false) (h2 : (c.toList == [48, 48, 50]) = true) :
    Calls Try.prog 15 #[.pointer (some ⟨b, 0, none⟩), .string c] w (Tells w b (heardS ⟨ro, ec, an, 1, wa, qu, tr⟩) ⟨c, c00, false⟩) := by
  have hlt := hb.lt
  have c0 : w.cell? ⟨b, 0, none⟩ = some (.int .i64 ro) := hb.cell 0
  have c3 : w.cell? ⟨b, 3, none⟩ = some (.int .i64 st) := hb.cell 3
  have f3 := hb.frozen 3
  have HB := Lib.hid hb
  clear hb
  go_enter Try.func15, Try.ntmps15
  go_wp2_with (go_at_call 14; refine (heard_any b ro ec an 1 wa qu tr _ ((HB.out.set_ 3 (.int .i64 1)).alloc _)).mono ?_; rintro e w1 ⟨rfl, hb1, hg1⟩; have hr : Blk w1 w.heap.size 27 #[.string { data := #[] }, .string { data := #[] }, .bool false] := (Blk.new' (by simp) 27 _).grown hg1 (by intro e; injection e; omega); have hz := hr.lt; have d0 := hr.cell 0; have d1 := hr.cell 1; have d2 := hr.cell 2; have e0 := hr.frozen 0; have e1 := hr.frozen 1; have e2 := hr.frozen 2; simp at d0 d1 d2; have HO := Lib.hid (only_trans (only_alloc (only_own (only_refl w (some b)) _) _) hg1); have HB1 := Lib.hid hb1; clear hb1 hg1 hr)
  refine bodyPost_ret (v := Y.val ⟨c, c00, false⟩) ?_ rfl ⟨rfl, ?_, ?_⟩
  · simp [results, Try.results15, go_sem, quietY, askY, goneY, c001, c301, c00, c12, Y.val, cNone, d0, d1, d2]
  · repeat (with_reducible first | exact HB1.out | apply Blk.alloc | apply Blk.drewN | apply Blk.drew | apply Blk.set_eq | apply Blk.far_ (Nat.ne_of_lt hlt))
  · repeat (with_reducible first | exact HO.out | refine only_alloc ?_ _ | refine only_drewN ?_ _ | refine only_drew ?_ | refine only_own ?_ _ | refine only_new ?_ _)
set_option maxHeartbeats 400000 in
theorem asked_key (hb : Blk w b 63 (S.cells ⟨ro, ec, an, st, wa, qu, tr⟩)) (h0 : (st == 0) = false) (h1 : (c.toList == [48, 48, 49]) = false) (h2 : (c.toList == [48, 48, 50]) = false) (h3 : (c.toList == [49, 48, 49]) = true) :
    Calls Try.prog 15 #[.pointer (some ⟨b, 0, none⟩), .string c] w (Tells w b (heardS ⟨ro, ec, an, st, wa, qu, tr⟩) ⟨c, c00, false⟩) := by
  have hlt := hb.lt
  have c0 : w.cell? ⟨b, 0, none⟩ = some (.int .i64 ro) := hb.cell 0
  have c3 : w.cell? ⟨b, 3, none⟩ = some (.int .i64 st) := hb.cell 3
  have f3 := hb.frozen 3
  have HB := Lib.hid hb
  clear hb
  go_enter Try.func15, Try.ntmps15
  go_wp2_with (go_at_call 14; refine (heard_any b ro ec an st wa qu tr _ (HB.out.alloc _)).mono ?_; rintro e w1 ⟨rfl, hb1, hg1⟩; have hr : Blk w1 w.heap.size 27 #[.string { data := #[] }, .string { data := #[] }, .bool false] := (Blk.new' (by simp) 27 _).grown hg1 (by intro e; injection e; omega); have hz := hr.lt; have d0 := hr.cell 0; have d1 := hr.cell 1; have d2 := hr.cell 2; have e0 := hr.frozen 0; have e1 := hr.frozen 1; have e2 := hr.frozen 2; simp at d0 d1 d2; have HO := Lib.hid (only_trans (only_alloc (only_refl w (some b)) _) hg1); have HB1 := Lib.hid hb1; clear hb1 hg1 hr)
  refine bodyPost_ret (v := Y.val ⟨c, c00, false⟩) ?_ rfl ⟨rfl, ?_, ?_⟩
  · simp [results, Try.results15, go_sem, quietY, askY, goneY, c001, c301, c00, c12, Y.val, cNone, d0, d1, d2]
  · repeat (with_reducible first | exact HB1.out | apply Blk.alloc | apply Blk.drewN | apply Blk.drew | apply Blk.set_eq | apply Blk.far_ (Nat.ne_of_lt hlt))
  · repeat (with_reducible first | exact HO.out | refine only_alloc ?_ _ | refine only_drewN ?_ _ | refine only_drew ?_ | refine only_own ?_ _ | refine only_new ?_ _)
set_option maxHeartbeats 400000 in
theorem asked_echo (hb : Blk w b 63 (S.cells ⟨ro, ec, an, st, wa, qu, tr⟩)) (h0 : (st == 0) = false) (h1 : (c.toList == [48, 48, 49]) = false) (h2 : (c.toList == [48, 48, 50]) = false) (h3 : (c.toList == [49, 48, 49]) = false) (h4 : (c.toList == [51, 48, 49]) = true) :
    Calls Try.prog 15 #[.pointer (some ⟨b, 0, none⟩), .string c] w (Tells w b (heardS ⟨ro, ec, an, st, wa, qu, tr⟩) ⟨c, c00, false⟩) := by
  have hlt := hb.lt
  have c0 : w.cell? ⟨b, 0, none⟩ = some (.int .i64 ro) := hb.cell 0
  have c3 : w.cell? ⟨b, 3, none⟩ = some (.int .i64 st) := hb.cell 3
  have f3 := hb.frozen 3
  have HB := Lib.hid hb
  clear hb
  go_enter Try.func15, Try.ntmps15
  go_wp2_with (go_at_call 14; refine (heard_any b ro ec an st wa qu tr _ (HB.out.alloc _)).mono ?_; rintro e w1 ⟨rfl, hb1, hg1⟩; have hr : Blk w1 w.heap.size 27 #[.string { data := #[] }, .string { data := #[] }, .bool false] := (Blk.new' (by simp) 27 _).grown hg1 (by intro e; injection e; omega); have hz := hr.lt; have d0 := hr.cell 0; have d1 := hr.cell 1; have d2 := hr.cell 2; have e0 := hr.frozen 0; have e1 := hr.frozen 1; have e2 := hr.frozen 2; simp at d0 d1 d2; have HO := Lib.hid (only_trans (only_alloc (only_refl w (some b)) _) hg1); have HB1 := Lib.hid hb1; clear hb1 hg1 hr)
  refine bodyPost_ret (v := Y.val ⟨c, c00, false⟩) ?_ rfl ⟨rfl, ?_, ?_⟩
  · simp [results, Try.results15, go_sem, quietY, askY, goneY, c001, c301, c00, c12, Y.val, cNone, d0, d1, d2]
  · repeat (with_reducible first | exact HB1.out | apply Blk.alloc | apply Blk.drewN | apply Blk.drew | apply Blk.set_eq | apply Blk.far_ (Nat.ne_of_lt hlt))
  · repeat (with_reducible first | exact HO.out | refine only_alloc ?_ _ | refine only_drewN ?_ _ | refine only_drew ?_ | refine only_own ?_ _ | refine only_new ?_ _)
set_option maxHeartbeats 400000 in
theorem asked_other (hb : Blk w b 63 (S.cells ⟨ro, ec, an, st, wa, qu, tr⟩)) (h0 : (st == 0) = false) (h1 : (c.toList == [48, 48, 49]) = false) (h2 : (c.toList == [48, 48, 50]) = false) (h3 : (c.toList == [49, 48, 49]) = false) (h4 : (c.toList == [51, 48, 49]) = false) :
    Calls Try.prog 15 #[.pointer (some ⟨b, 0, none⟩), .string c] w (Tells w b (heardS ⟨ro, ec, an, st, wa, qu, tr⟩) ⟨c, c12, false⟩) := by
  have hlt := hb.lt
  have c0 : w.cell? ⟨b, 0, none⟩ = some (.int .i64 ro) := hb.cell 0
  have c3 : w.cell? ⟨b, 3, none⟩ = some (.int .i64 st) := hb.cell 3
  have f3 := hb.frozen 3
  have HB := Lib.hid hb
  clear hb
  go_enter Try.func15, Try.ntmps15
  go_wp2_with (go_at_call 14; refine (heard_any b ro ec an st wa qu tr _ (HB.out.alloc _)).mono ?_; rintro e w1 ⟨rfl, hb1, hg1⟩; have hr : Blk w1 w.heap.size 27 #[.string { data := #[] }, .string { data := #[] }, .bool false] := (Blk.new' (by simp) 27 _).grown hg1 (by intro e; injection e; omega); have hz := hr.lt; have d0 := hr.cell 0; have d1 := hr.cell 1; have d2 := hr.cell 2; have e0 := hr.frozen 0; have e1 := hr.frozen 1; have e2 := hr.frozen 2; simp at d0 d1 d2; have HO := Lib.hid (only_trans (only_alloc (only_refl w (some b)) _) hg1); have HB1 := Lib.hid hb1; clear hb1 hg1 hr)
  refine bodyPost_ret (v := Y.val ⟨c, c12, false⟩) ?_ rfl ⟨rfl, ?_, ?_⟩
  · simp [results, Try.results15, go_sem, quietY, askY, goneY, c001, c301, c00, c12, Y.val, cNone, d0, d1, d2]
  · repeat (with_reducible first | exact HB1.out | apply Blk.alloc | apply Blk.drewN | apply Blk.drew | apply Blk.set_eq | apply Blk.far_ (Nat.ne_of_lt hlt))
  · repeat (with_reducible first | exact HO.out | refine only_alloc ?_ _ | refine only_drewN ?_ _ | refine only_drew ?_ | refine only_own ?_ _ | refine only_new ?_ _)
theorem answered_any (hb : Blk w b 63 (S.cells ⟨ro, ec, an, st, wa, qu, tr⟩)) :
    Calls Try.prog 16 #[.pointer (some ⟨b, 0, none⟩), .string c, .string a] w (Tells w b (answeredS ⟨ro, ec, an, st, wa, qu, tr⟩ c.toList a.toList) quietY) := by
  by_cases k2 : st = 2
  · subst k2
    by_cases kc : c.toList = [48, 48, 49]
    · by_cases ka : a.toList = [48, 48]
      · exact (answered_on b ro ec an wa qu tr w c a hb (by simp [kc]) (by simp [ka])).mono fun e w' h => Tells.of h (by simp [answeredS, kc, ka]) rfl
      · exact (answered_no2a b ro ec an wa qu tr w c a hb (by simp [kc]) (by simp [ka])).mono fun e w' h => Tells.of h (by simp [answeredS, kc, ka]) rfl
    · exact (answered_no2 b ro ec an wa qu tr w c a hb (by simp [kc])).mono fun e w' h => Tells.of h (by simp [answeredS, kc]) rfl
  by_cases k4 : st = 4
  · subst k4
    by_cases kc : c.toList = [51, 48, 49]
    · exact (answered_echo b ro ec an wa qu tr w c a hb (by simp [kc])).mono fun e w' h => Tells.of h (by simp [answeredS, kc]) rfl
    · exact (answered_no4 b ro ec an wa qu tr w c a hb (by simp [kc])).mono fun e w' h => Tells.of h (by simp [answeredS, kc]) rfl
  · exact (answered_no b ro ec an st wa qu tr w c a hb (by simp [k2]) (by simp [k4])).mono fun e w' h => Tells.of h (by simp [answeredS, k2, k4]) rfl
theorem asked_any (hb : Blk w b 63 (S.cells ⟨ro, ec, an, st, wa, qu, tr⟩)) (hr : ro = 1 ∨ ro = 2) :
    Calls Try.prog 15 #[.pointer (some ⟨b, 0, none⟩), .string c] w (Tells w b (askedS ⟨ro, ec, an, st, wa, qu, tr⟩ c.toList) (askedY ⟨ro, ec, an, st, wa, qu, tr⟩ c)) := by
  by_cases k0 : st = 0
  · subst k0
    exact (asked_down b ro ec an wa qu tr w c hb).mono fun e w' h => Tells.of h (by simp [askedS]) (by simp [askedY])
  have h0 : (st == 0) = false := by simp [k0]
  by_cases k1 : c.toList = [48, 48, 49]
  · rcases hr with rfl | rfl
    · exact (asked_on b ec an st wa qu tr w c hb h0 (by simp [k1])).mono fun e w' h => Tells.of h (by simp [askedS, k0, k1]) (by simp [askedY, askedA, k0, k1])
    · exact (asked_refused b ec an st wa qu tr w c hb h0 (by simp [k1]) (by simp [k1]) (by simp [k1]) (by simp [k1])).mono fun e w' h => Tells.of h (by simp [askedS, k0, k1]) (by simp [askedY, askedA, k0, k1])
  have h1 : (c.toList == [48, 48, 49]) = false := by simp [k1]
  by_cases k2 : c.toList = [48, 48, 50]
  · exact (asked_off b ro ec an st wa qu tr w c hb h0 h1 (by simp [k2])).mono fun e w' h => Tells.of h (by simp [askedS, k0, k2]) (by simp [askedY, askedA, k0, k2])
  have h2 : (c.toList == [48, 48, 50]) = false := by simp [k2]
  by_cases k3 : c.toList = [49, 48, 49]
  · exact (asked_key b ro ec an st wa qu tr w c hb h0 h1 h2 (by simp [k3])).mono fun e w' h => Tells.of h (by simp [askedS, k0, k3]) (by simp [askedY, askedA, k0, k3])
  have h3 : (c.toList == [49, 48, 49]) = false := by simp [k3]
  by_cases k4 : c.toList = [51, 48, 49]
  · exact (asked_echo b ro ec an st wa qu tr w c hb h0 h1 h2 h3 (by simp [k4])).mono fun e w' h => Tells.of h (by simp [askedS, k0, k4]) (by simp [askedY, askedA, k0, k4])
  · exact (asked_other b ro ec an st wa qu tr w c hb h0 h1 h2 h3 (by simp [k4])).mono fun e w' h => Tells.of h (by simp [askedS, k0, k1, k2]) (by simp [askedY, askedA, k0, k1, k2, k3, k4])
end
set_option maxHeartbeats 400000 in
theorem new_ok (ro ec an : Int) (w : World) (hr : ro = 1 ∨ ro = 2) (he0 : 0 ≤ ec) (he1 : ec ≤ 100000) (ha0 : 1 ≤ an) (ha1 : an ≤ 100000) :
    Calls Try.prog 19 #[.int .i64 ro, .int .i64 ec, .int .i64 an] w fun e w' => e = .returned (.tuple #[.pointer (some ⟨w.heap.size, 0, none⟩), .int .i64 0]) ∧ w' = w.alloc (.cells (S.cells ⟨ro, ec, an, 0, 0, 0, 0⟩) 63) := by
  rcases hr with rfl | rfl
  all_goals
    go_enter Try.func19, Try.ntmps19
    go_wp2
    go_ret2
    exact ⟨rfl, rfl⟩
end Go.Proofs.Ytcdikjomiomnpaa
