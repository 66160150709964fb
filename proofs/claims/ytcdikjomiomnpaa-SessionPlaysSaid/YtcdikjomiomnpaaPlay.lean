/-
  SessionPlays: one step of a script on a pair, kind by kind.
-/
import Derived.Test.YtcdikjomiomnpaaPlayP
namespace Go.Proofs.Ytcdikjomiomnpaa
open Go.RowKit
set_option linter.unusedVariables false
set_option linter.unusedSimpArgs false
set_option maxHeartbeats 1000000 in
theorem play_up (b g : Nat) (on nn : Int) (co an : ByteArray) (cs ct cs' ct' : Array Value) (yc ya : ByteArray) (yl : Bool) (w : World) (hP : Pq w b g cs ct [] w)
    (QA : Hid (∀ W, Blk W b 63 cs → Calls Try.prog 20 #[.pointer (some ⟨b, 0, none⟩)] W fun e w' => e = .returned (.agg #[.string yc, .string ya, .bool yl]) ∧ Blk w' b 63 cs' ∧ W.grownBy w' (some b)))
    (QB : Hid (∀ W, Blk W g 65 ct → Calls Try.prog 33 #[.pointer (some ⟨g, 0, none⟩)] W fun e w' => e = .returned (.agg #[.string yc, .string ya, .bool yl]) ∧ Blk w' g 65 ct' ∧ W.grownBy w' (some g))) :
    Calls Try.prog 22 #[.agg #[.pointer (some ⟨b, 0, none⟩), .pointer (some ⟨g, 0, none⟩)], .agg #[.int .i64 1, .int .i64 on, .int .i64 nn, .string co, .string an]] w fun e w' => e = .returned (.bool true) ∧ Blk w' b 63 cs' ∧ Blk w' g 65 ct' ∧ Gr2 w w' b g := by
  have P := Lib.hid hP
  clear hP
  go_enter Try.func22, Try.ntmps22
  go_wp2_with (first
    | (go_at_call 20; refine (QA.out _ (Pq.pa (Pq.new (Pq.new P.out _ _) _ _))).mono ?_; rintro e w1 ⟨rfl, hb1, hg1⟩; have P1 := Lib.hid (Pq.a (Pq.new (Pq.new P.out 47 #[.pointer (some ⟨b, 0, none⟩), .pointer (some ⟨g, 0, none⟩)]) 49 #[.int .i64 1, .int .i64 on, .int .i64 nn, .string co, .string an]) hb1 hg1); have r0 : Blk w1 w.heap.size 47 #[.pointer (some ⟨b, 0, none⟩), .pointer (some ⟨g, 0, none⟩)] := P1.out.at_ (List.mem_cons_of_mem _ (List.mem_cons_self ..)); have r1 : Blk w1 (w.heap.size + 1) 49 #[.int .i64 1, .int .i64 on, .int .i64 nn, .string co, .string an] := (by have q := P1.out.at_ (List.mem_cons_self ..); simpa using q); have l0 := r0.lt; have l1 := r1.lt; have x0 := r0.cell 0; have x1 := r0.cell 1; have o2 := r1.cell 2; have o3 := r1.cell 3; have o4 := r1.cell 4; simp at x0 x1 o2 o3 o4; clear r0 r1 hb1 hg1)
    | (go_at_call 33; refine (QB.out _ (Pq.pb (Pq.new P1.out _ _))).mono ?_; rintro e w2 ⟨rfl, hb2, hg2⟩; have P2 := Lib.hid (Pq.b_ (Pq.new P1.out 27 #[.string yc, .string ya, .bool yl]) hb2 hg2); have r2 : Blk w2 w1.heap.size 27 #[.string yc, .string ya, .bool yl] := P2.out.at_ (List.mem_cons_self ..); have l2 := r2.lt; have d0 := r2.cell 0; have d1 := r2.cell 1; have d2 := r2.cell 2; simp at d0 d1 d2; clear r2 hb2 hg2)
    | (go_at_call 26; refine (same_yes _ _ _ _).mono ?_; rintro e w3 ⟨rfl, hb3⟩; have P3 := Lib.hid (Pq.call (Pq.new P2.out 51 #[.string yc, .string ya, .bool yl]) hb3)))
  go_ret
  exact ⟨rfl, P3.out.pa, P3.out.pb, P3.out.gr⟩
set_option maxHeartbeats 1000000 in
theorem play_asked (b g : Nat) (on nn : Int) (co an : ByteArray) (cs ct cs' ct' : Array Value) (yc ya : ByteArray) (yl : Bool) (w : World) (hP : Pq w b g cs ct [] w)
    (QA : Hid (∀ W, Blk W b 63 cs → Calls Try.prog 15 #[.pointer (some ⟨b, 0, none⟩), .string co] W fun e w' => e = .returned (.agg #[.string yc, .string ya, .bool yl]) ∧ Blk w' b 63 cs' ∧ W.grownBy w' (some b)))
    (QB : Hid (∀ W, Blk W g 65 ct → Calls Try.prog 37 #[.pointer (some ⟨g, 0, none⟩), .string co] W fun e w' => e = .returned (.agg #[.string yc, .string ya, .bool yl]) ∧ Blk w' g 65 ct' ∧ W.grownBy w' (some g))) :
    Calls Try.prog 22 #[.agg #[.pointer (some ⟨b, 0, none⟩), .pointer (some ⟨g, 0, none⟩)], .agg #[.int .i64 4, .int .i64 on, .int .i64 nn, .string co, .string an]] w fun e w' => e = .returned (.bool true) ∧ Blk w' b 63 cs' ∧ Blk w' g 65 ct' ∧ Gr2 w w' b g := by
  have P := Lib.hid hP
  clear hP
  go_enter Try.func22, Try.ntmps22
  go_wp2_with (first
    | (go_at_call 15; refine (QA.out _ (Pq.pa (Pq.new (Pq.new P.out _ _) _ _))).mono ?_; rintro e w1 ⟨rfl, hb1, hg1⟩; have P1 := Lib.hid (Pq.a (Pq.new (Pq.new P.out 47 #[.pointer (some ⟨b, 0, none⟩), .pointer (some ⟨g, 0, none⟩)]) 49 #[.int .i64 4, .int .i64 on, .int .i64 nn, .string co, .string an]) hb1 hg1); have r0 : Blk w1 w.heap.size 47 #[.pointer (some ⟨b, 0, none⟩), .pointer (some ⟨g, 0, none⟩)] := P1.out.at_ (List.mem_cons_of_mem _ (List.mem_cons_self ..)); have r1 : Blk w1 (w.heap.size + 1) 49 #[.int .i64 4, .int .i64 on, .int .i64 nn, .string co, .string an] := (by have q := P1.out.at_ (List.mem_cons_self ..); simpa using q); have l0 := r0.lt; have l1 := r1.lt; have x0 := r0.cell 0; have x1 := r0.cell 1; have o2 := r1.cell 2; have o3 := r1.cell 3; have o4 := r1.cell 4; simp at x0 x1 o2 o3 o4; clear r0 r1 hb1 hg1)
    | (go_at_call 37; refine (QB.out _ (Pq.pb (Pq.new P1.out _ _))).mono ?_; rintro e w2 ⟨rfl, hb2, hg2⟩; have P2 := Lib.hid (Pq.b_ (Pq.new P1.out 27 #[.string yc, .string ya, .bool yl]) hb2 hg2); have r2 : Blk w2 w1.heap.size 27 #[.string yc, .string ya, .bool yl] := P2.out.at_ (List.mem_cons_self ..); have l2 := r2.lt; have d0 := r2.cell 0; have d1 := r2.cell 1; have d2 := r2.cell 2; simp at d0 d1 d2; clear r2 hb2 hg2)
    | (go_at_call 26; refine (same_yes _ _ _ _).mono ?_; rintro e w3 ⟨rfl, hb3⟩; have P3 := Lib.hid (Pq.call (Pq.new P2.out 51 #[.string yc, .string ya, .bool yl]) hb3)))
  go_ret
  exact ⟨rfl, P3.out.pa, P3.out.pb, P3.out.gr⟩
set_option maxHeartbeats 1000000 in
theorem play_answered (b g : Nat) (on nn : Int) (co an : ByteArray) (cs ct cs' ct' : Array Value) (yc ya : ByteArray) (yl : Bool) (w : World) (hP : Pq w b g cs ct [] w)
    (QA : Hid (∀ W, Blk W b 63 cs → Calls Try.prog 16 #[.pointer (some ⟨b, 0, none⟩), .string co, .string an] W fun e w' => e = .returned (.agg #[.string yc, .string ya, .bool yl]) ∧ Blk w' b 63 cs' ∧ W.grownBy w' (some b)))
    (QB : Hid (∀ W, Blk W g 65 ct → Calls Try.prog 38 #[.pointer (some ⟨g, 0, none⟩), .string co, .string an] W fun e w' => e = .returned (.agg #[.string yc, .string ya, .bool yl]) ∧ Blk w' g 65 ct' ∧ W.grownBy w' (some g))) :
    Calls Try.prog 22 #[.agg #[.pointer (some ⟨b, 0, none⟩), .pointer (some ⟨g, 0, none⟩)], .agg #[.int .i64 5, .int .i64 on, .int .i64 nn, .string co, .string an]] w fun e w' => e = .returned (.bool true) ∧ Blk w' b 63 cs' ∧ Blk w' g 65 ct' ∧ Gr2 w w' b g := by
  have P := Lib.hid hP
  clear hP
  go_enter Try.func22, Try.ntmps22
  go_wp2_with (first
    | (go_at_call 16; refine (QA.out _ (Pq.pa (Pq.new (Pq.new P.out _ _) _ _))).mono ?_; rintro e w1 ⟨rfl, hb1, hg1⟩; have P1 := Lib.hid (Pq.a (Pq.new (Pq.new P.out 47 #[.pointer (some ⟨b, 0, none⟩), .pointer (some ⟨g, 0, none⟩)]) 49 #[.int .i64 5, .int .i64 on, .int .i64 nn, .string co, .string an]) hb1 hg1); have r0 : Blk w1 w.heap.size 47 #[.pointer (some ⟨b, 0, none⟩), .pointer (some ⟨g, 0, none⟩)] := P1.out.at_ (List.mem_cons_of_mem _ (List.mem_cons_self ..)); have r1 : Blk w1 (w.heap.size + 1) 49 #[.int .i64 5, .int .i64 on, .int .i64 nn, .string co, .string an] := (by have q := P1.out.at_ (List.mem_cons_self ..); simpa using q); have l0 := r0.lt; have l1 := r1.lt; have x0 := r0.cell 0; have x1 := r0.cell 1; have o2 := r1.cell 2; have o3 := r1.cell 3; have o4 := r1.cell 4; simp at x0 x1 o2 o3 o4; clear r0 r1 hb1 hg1)
    | (go_at_call 38; refine (QB.out _ (Pq.pb (Pq.new P1.out _ _))).mono ?_; rintro e w2 ⟨rfl, hb2, hg2⟩; have P2 := Lib.hid (Pq.b_ (Pq.new P1.out 27 #[.string yc, .string ya, .bool yl]) hb2 hg2); have r2 : Blk w2 w1.heap.size 27 #[.string yc, .string ya, .bool yl] := P2.out.at_ (List.mem_cons_self ..); have l2 := r2.lt; have d0 := r2.cell 0; have d1 := r2.cell 1; have d2 := r2.cell 2; simp at d0 d1 d2; clear r2 hb2 hg2)
    | (go_at_call 26; refine (same_yes _ _ _ _).mono ?_; rintro e w3 ⟨rfl, hb3⟩; have P3 := Lib.hid (Pq.call (Pq.new P2.out 51 #[.string yc, .string ya, .bool yl]) hb3)))
  go_ret
  exact ⟨rfl, P3.out.pa, P3.out.pb, P3.out.gr⟩
set_option maxHeartbeats 1000000 in
theorem play_tick (b g : Nat) (on nn : Int) (co an : ByteArray) (cs ct cs' ct' : Array Value) (yc ya : ByteArray) (yl : Bool) (w : World) (hP : Pq w b g cs ct [] w)
    (QA : Hid (∀ W, Blk W b 63 cs → Calls Try.prog 11 #[.pointer (some ⟨b, 0, none⟩)] W fun e w' => e = .returned (.agg #[.string yc, .string ya, .bool yl]) ∧ Blk w' b 63 cs' ∧ W.grownBy w' (some b)))
    (QB : Hid (∀ W, Blk W g 65 ct → Calls Try.prog 25 #[.pointer (some ⟨g, 0, none⟩)] W fun e w' => e = .returned (.agg #[.string yc, .string ya, .bool yl]) ∧ Blk w' g 65 ct' ∧ W.grownBy w' (some g))) :
    Calls Try.prog 22 #[.agg #[.pointer (some ⟨b, 0, none⟩), .pointer (some ⟨g, 0, none⟩)], .agg #[.int .i64 6, .int .i64 on, .int .i64 nn, .string co, .string an]] w fun e w' => e = .returned (.bool true) ∧ Blk w' b 63 cs' ∧ Blk w' g 65 ct' ∧ Gr2 w w' b g := by
  have P := Lib.hid hP
  clear hP
  go_enter Try.func22, Try.ntmps22
  go_wp2_with (first
    | (go_at_call 11; refine (QA.out _ (Pq.pa (Pq.new (Pq.new P.out _ _) _ _))).mono ?_; rintro e w1 ⟨rfl, hb1, hg1⟩; have P1 := Lib.hid (Pq.a (Pq.new (Pq.new P.out 47 #[.pointer (some ⟨b, 0, none⟩), .pointer (some ⟨g, 0, none⟩)]) 49 #[.int .i64 6, .int .i64 on, .int .i64 nn, .string co, .string an]) hb1 hg1); have r0 : Blk w1 w.heap.size 47 #[.pointer (some ⟨b, 0, none⟩), .pointer (some ⟨g, 0, none⟩)] := P1.out.at_ (List.mem_cons_of_mem _ (List.mem_cons_self ..)); have r1 : Blk w1 (w.heap.size + 1) 49 #[.int .i64 6, .int .i64 on, .int .i64 nn, .string co, .string an] := (by have q := P1.out.at_ (List.mem_cons_self ..); simpa using q); have l0 := r0.lt; have l1 := r1.lt; have x0 := r0.cell 0; have x1 := r0.cell 1; have o2 := r1.cell 2; have o3 := r1.cell 3; have o4 := r1.cell 4; simp at x0 x1 o2 o3 o4; clear r0 r1 hb1 hg1)
    | (go_at_call 25; refine (QB.out _ (Pq.pb (Pq.new P1.out _ _))).mono ?_; rintro e w2 ⟨rfl, hb2, hg2⟩; have P2 := Lib.hid (Pq.b_ (Pq.new P1.out 27 #[.string yc, .string ya, .bool yl]) hb2 hg2); have r2 : Blk w2 w1.heap.size 27 #[.string yc, .string ya, .bool yl] := P2.out.at_ (List.mem_cons_self ..); have l2 := r2.lt; have d0 := r2.cell 0; have d1 := r2.cell 1; have d2 := r2.cell 2; simp at d0 d1 d2; clear r2 hb2 hg2)
    | (go_at_call 26; refine (same_yes _ _ _ _).mono ?_; rintro e w3 ⟨rfl, hb3⟩; have P3 := Lib.hid (Pq.call (Pq.new P2.out 51 #[.string yc, .string ya, .bool yl]) hb3)))
  go_ret
  exact ⟨rfl, P3.out.pa, P3.out.pb, P3.out.gr⟩
set_option maxHeartbeats 1000000 in
theorem play_down (b g : Nat) (on nn : Int) (co an : ByteArray) (cs ct cs' ct' : Array Value) (w : World) (hP : Pq w b g cs ct [] w)
    (QA : Hid (∀ W, Blk W b 63 cs → Calls Try.prog 34 #[.pointer (some ⟨b, 0, none⟩)] W fun e w' => e = .returned (.tuple #[]) ∧ Blk w' b 63 cs' ∧ W.grownBy w' (some b)))
    (QB : Hid (∀ W, Blk W g 65 ct → Calls Try.prog 35 #[.pointer (some ⟨g, 0, none⟩)] W fun e w' => e = .returned (.tuple #[]) ∧ Blk w' g 65 ct' ∧ W.grownBy w' (some g))) :
    Calls Try.prog 22 #[.agg #[.pointer (some ⟨b, 0, none⟩), .pointer (some ⟨g, 0, none⟩)], .agg #[.int .i64 2, .int .i64 on, .int .i64 nn, .string co, .string an]] w fun e w' => e = .returned (.bool true) ∧ Blk w' b 63 cs' ∧ Blk w' g 65 ct' ∧ Gr2 w w' b g := by
  have P := Lib.hid hP
  clear hP
  go_enter Try.func22, Try.ntmps22
  go_wp2_with (first
    | (go_at_call 34; refine (QA.out _ (Pq.pa (Pq.new (Pq.new P.out _ _) _ _))).mono ?_; rintro e w1 ⟨rfl, hb1, hg1⟩; have P1 := Lib.hid (Pq.a (Pq.new (Pq.new P.out 47 #[.pointer (some ⟨b, 0, none⟩), .pointer (some ⟨g, 0, none⟩)]) 49 #[.int .i64 2, .int .i64 on, .int .i64 nn, .string co, .string an]) hb1 hg1); have r0 : Blk w1 w.heap.size 47 #[.pointer (some ⟨b, 0, none⟩), .pointer (some ⟨g, 0, none⟩)] := P1.out.at_ (List.mem_cons_of_mem _ (List.mem_cons_self ..)); have r1 : Blk w1 (w.heap.size + 1) 49 #[.int .i64 2, .int .i64 on, .int .i64 nn, .string co, .string an] := (by have q := P1.out.at_ (List.mem_cons_self ..); simpa using q); have l0 := r0.lt; have l1 := r1.lt; have x0 := r0.cell 0; have x1 := r0.cell 1; have o2 := r1.cell 2; have o3 := r1.cell 3; have o4 := r1.cell 4; simp at x0 x1 o2 o3 o4; clear r0 r1 hb1 hg1)
    | (go_at_call 35; refine (QB.out _ (Pq.pb P1.out)).mono ?_; rintro e w2 ⟨rfl, hb2, hg2⟩; have P2 := Lib.hid (Pq.b_ P1.out hb2 hg2)))
  go_ret
  exact ⟨rfl, P2.out.pa, P2.out.pb, P2.out.gr⟩
set_option maxHeartbeats 1000000 in
theorem play_heard (b g : Nat) (on nn : Int) (co an : ByteArray) (cs ct cs' ct' : Array Value) (w : World) (hP : Pq w b g cs ct [] w)
    (QA : Hid (∀ W, Blk W b 63 cs → Calls Try.prog 14 #[.pointer (some ⟨b, 0, none⟩)] W fun e w' => e = .returned (.tuple #[]) ∧ Blk w' b 63 cs' ∧ W.grownBy w' (some b)))
    (QB : Hid (∀ W, Blk W g 65 ct → Calls Try.prog 36 #[.pointer (some ⟨g, 0, none⟩)] W fun e w' => e = .returned (.tuple #[]) ∧ Blk w' g 65 ct' ∧ W.grownBy w' (some g))) :
    Calls Try.prog 22 #[.agg #[.pointer (some ⟨b, 0, none⟩), .pointer (some ⟨g, 0, none⟩)], .agg #[.int .i64 3, .int .i64 on, .int .i64 nn, .string co, .string an]] w fun e w' => e = .returned (.bool true) ∧ Blk w' b 63 cs' ∧ Blk w' g 65 ct' ∧ Gr2 w w' b g := by
  have P := Lib.hid hP
  clear hP
  go_enter Try.func22, Try.ntmps22
  go_wp2_with (first
    | (go_at_call 14; refine (QA.out _ (Pq.pa (Pq.new (Pq.new P.out _ _) _ _))).mono ?_; rintro e w1 ⟨rfl, hb1, hg1⟩; have P1 := Lib.hid (Pq.a (Pq.new (Pq.new P.out 47 #[.pointer (some ⟨b, 0, none⟩), .pointer (some ⟨g, 0, none⟩)]) 49 #[.int .i64 3, .int .i64 on, .int .i64 nn, .string co, .string an]) hb1 hg1); have r0 : Blk w1 w.heap.size 47 #[.pointer (some ⟨b, 0, none⟩), .pointer (some ⟨g, 0, none⟩)] := P1.out.at_ (List.mem_cons_of_mem _ (List.mem_cons_self ..)); have r1 : Blk w1 (w.heap.size + 1) 49 #[.int .i64 3, .int .i64 on, .int .i64 nn, .string co, .string an] := (by have q := P1.out.at_ (List.mem_cons_self ..); simpa using q); have l0 := r0.lt; have l1 := r1.lt; have x0 := r0.cell 0; have x1 := r0.cell 1; have o2 := r1.cell 2; have o3 := r1.cell 3; have o4 := r1.cell 4; simp at x0 x1 o2 o3 o4; clear r0 r1 hb1 hg1)
    | (go_at_call 36; refine (QB.out _ (Pq.pb P1.out)).mono ?_; rintro e w2 ⟨rfl, hb2, hg2⟩; have P2 := Lib.hid (Pq.b_ P1.out hb2 hg2)))
  go_ret
  exact ⟨rfl, P2.out.pa, P2.out.pb, P2.out.gr⟩
set_option maxHeartbeats 1000000 in
theorem play_none (b g : Nat) (v on nn : Int) (co an : ByteArray) (cs ct : Array Value) (w : World) (hP : Pq w b g cs ct [] w) (n1 : (v == 1) = false) (n2 : (v == 2) = false) (n3 : (v == 3) = false) (n4 : (v == 4) = false) (n5 : (v == 5) = false) (n6 : (v == 6) = false) (n7 : (v == 7) = false) (n8 : (v == 8) = false) :
    Calls Try.prog 22 #[.agg #[.pointer (some ⟨b, 0, none⟩), .pointer (some ⟨g, 0, none⟩)], .agg #[.int .i64 v, .int .i64 on, .int .i64 nn, .string co, .string an]] w fun e w' => e = .returned (.bool true) ∧ Blk w' b 63 cs ∧ Blk w' g 65 ct ∧ Gr2 w w' b g := by
  have P := Lib.hid ((hP.new 47 #[.pointer (some ⟨b, 0, none⟩), .pointer (some ⟨g, 0, none⟩)]).new 49 #[.int .i64 v, .int .i64 on, .int .i64 nn, .string co, .string an])
  clear hP
  go_enter Try.func22, Try.ntmps22
  go_wp2
  go_ret
  exact ⟨rfl, P.out.pa, P.out.pb, P.out.gr⟩
set_option maxHeartbeats 1000000 in
theorem play_own0 (b g : Nat) (on nn : Int) (co an : ByteArray) (cs ct cs' ct' : Array Value) (yc ya : ByteArray) (yl : Bool) (w : World) (hP : Pq w b g cs ct [] w) (hn1 : -9223372036854775808 ≤ nn) (hn2 : nn ≤ 9223372036854775807) (hn : pickP nn 2 = 0)
    (QA : Hid (∀ W, Blk W b 63 cs → Calls Try.prog 16 #[.pointer (some ⟨b, 0, none⟩), .string { data := #[48, 48, 49] }, .string { data := #[48, 48] }] W fun e w' => e = .returned (.agg #[.string yc, .string ya, .bool yl]) ∧ Blk w' b 63 cs' ∧ W.grownBy w' (some b)))
    (QB : Hid (∀ W, Blk W g 65 ct → Calls Try.prog 38 #[.pointer (some ⟨g, 0, none⟩), .string { data := #[48, 48, 49] }, .string { data := #[48, 48] }] W fun e w' => e = .returned (.agg #[.string yc, .string ya, .bool yl]) ∧ Blk w' g 65 ct' ∧ W.grownBy w' (some g))) :
    Calls Try.prog 22 #[.agg #[.pointer (some ⟨b, 0, none⟩), .pointer (some ⟨g, 0, none⟩)], .agg #[.int .i64 8, .int .i64 on, .int .i64 nn, .string co, .string an]] w fun e w' => e = .returned (.bool true) ∧ Blk w' b 63 cs' ∧ Blk w' g 65 ct' ∧ Gr2 w w' b g := by
  have P := Lib.hid hP
  clear hP
  go_enter Try.func22, Try.ntmps22
  have HN := Lib.hid hn
  clear hn
  go_wp2_with (first
    | (go_at_call 9; refine (pick_is nn 2 0 _ hn1 hn2 (by omega) (by omega) HN.out).mono ?_; rintro e w' ⟨rfl, rfl⟩)
    | (go_at_call 16; refine (QA.out _ (Pq.pa (Pq.new (Pq.new (Pq.new P.out _ _) _ _) _ _))).mono ?_; rintro e w1 ⟨rfl, hb1, hg1⟩; have P1 := Lib.hid (Pq.a (Pq.new (Pq.new (Pq.new P.out 47 #[.pointer (some ⟨b, 0, none⟩), .pointer (some ⟨g, 0, none⟩)]) 49 #[.int .i64 8, .int .i64 on, .int .i64 nn, .string co, .string an]) 9 #[.string { data := #[48, 48, 49] }, .string { data := #[51, 48, 49] }]) hb1 hg1); have r0 : Blk w1 w.heap.size 47 #[.pointer (some ⟨b, 0, none⟩), .pointer (some ⟨g, 0, none⟩)] := P1.out.at_ (List.mem_cons_of_mem _ (List.mem_cons_of_mem _ (List.mem_cons_self ..))); have r1 : Blk w1 (w.heap.size + 1) 49 #[.int .i64 8, .int .i64 on, .int .i64 nn, .string co, .string an] := (by have q := P1.out.at_ (List.mem_cons_of_mem _ (List.mem_cons_self ..)); simpa using q); have l0 := r0.lt; have l1 := r1.lt; have x0 := r0.cell 0; have x1 := r0.cell 1; simp at x0 x1; clear r0 r1 hb1 hg1)
    | (go_at_call 38; refine (QB.out _ (Pq.pb (Pq.new P1.out _ _))).mono ?_; rintro e w2 ⟨rfl, hb2, hg2⟩; have P2 := Lib.hid (Pq.b_ (Pq.new P1.out 27 #[.string yc, .string ya, .bool yl]) hb2 hg2); have r2 : Blk w2 w1.heap.size 27 #[.string yc, .string ya, .bool yl] := P2.out.at_ (List.mem_cons_self ..); have l2 := r2.lt; have d0 := r2.cell 0; have d1 := r2.cell 1; have d2 := r2.cell 2; simp at d0 d1 d2; clear r2 hb2 hg2)
    | (go_at_call 26; refine (same_yes _ _ _ _).mono ?_; rintro e w3 ⟨rfl, hb3⟩; have P3 := Lib.hid (Pq.call (Pq.new P2.out 51 #[.string yc, .string ya, .bool yl]) hb3)))
  go_ret
  exact ⟨rfl, P3.out.pa, P3.out.pb, P3.out.gr⟩
set_option maxHeartbeats 1000000 in
theorem play_own1 (b g : Nat) (on nn : Int) (co an : ByteArray) (cs ct cs' ct' : Array Value) (yc ya : ByteArray) (yl : Bool) (w : World) (hP : Pq w b g cs ct [] w) (hn1 : -9223372036854775808 ≤ nn) (hn2 : nn ≤ 9223372036854775807) (hn : pickP nn 2 = 1)
    (QA : Hid (∀ W, Blk W b 63 cs → Calls Try.prog 16 #[.pointer (some ⟨b, 0, none⟩), .string { data := #[51, 48, 49] }, .string { data := #[48, 48] }] W fun e w' => e = .returned (.agg #[.string yc, .string ya, .bool yl]) ∧ Blk w' b 63 cs' ∧ W.grownBy w' (some b)))
    (QB : Hid (∀ W, Blk W g 65 ct → Calls Try.prog 38 #[.pointer (some ⟨g, 0, none⟩), .string { data := #[51, 48, 49] }, .string { data := #[48, 48] }] W fun e w' => e = .returned (.agg #[.string yc, .string ya, .bool yl]) ∧ Blk w' g 65 ct' ∧ W.grownBy w' (some g))) :
    Calls Try.prog 22 #[.agg #[.pointer (some ⟨b, 0, none⟩), .pointer (some ⟨g, 0, none⟩)], .agg #[.int .i64 8, .int .i64 on, .int .i64 nn, .string co, .string an]] w fun e w' => e = .returned (.bool true) ∧ Blk w' b 63 cs' ∧ Blk w' g 65 ct' ∧ Gr2 w w' b g := by
  have P := Lib.hid hP
  clear hP
  go_enter Try.func22, Try.ntmps22
  have HN := Lib.hid hn
  clear hn
  go_wp2_with (first
    | (go_at_call 9; refine (pick_is nn 2 1 _ hn1 hn2 (by omega) (by omega) HN.out).mono ?_; rintro e w' ⟨rfl, rfl⟩)
    | (go_at_call 16; refine (QA.out _ (Pq.pa (Pq.new (Pq.new (Pq.new P.out _ _) _ _) _ _))).mono ?_; rintro e w1 ⟨rfl, hb1, hg1⟩; have P1 := Lib.hid (Pq.a (Pq.new (Pq.new (Pq.new P.out 47 #[.pointer (some ⟨b, 0, none⟩), .pointer (some ⟨g, 0, none⟩)]) 49 #[.int .i64 8, .int .i64 on, .int .i64 nn, .string co, .string an]) 9 #[.string { data := #[48, 48, 49] }, .string { data := #[51, 48, 49] }]) hb1 hg1); have r0 : Blk w1 w.heap.size 47 #[.pointer (some ⟨b, 0, none⟩), .pointer (some ⟨g, 0, none⟩)] := P1.out.at_ (List.mem_cons_of_mem _ (List.mem_cons_of_mem _ (List.mem_cons_self ..))); have r1 : Blk w1 (w.heap.size + 1) 49 #[.int .i64 8, .int .i64 on, .int .i64 nn, .string co, .string an] := (by have q := P1.out.at_ (List.mem_cons_of_mem _ (List.mem_cons_self ..)); simpa using q); have l0 := r0.lt; have l1 := r1.lt; have x0 := r0.cell 0; have x1 := r0.cell 1; simp at x0 x1; clear r0 r1 hb1 hg1)
    | (go_at_call 38; refine (QB.out _ (Pq.pb (Pq.new P1.out _ _))).mono ?_; rintro e w2 ⟨rfl, hb2, hg2⟩; have P2 := Lib.hid (Pq.b_ (Pq.new P1.out 27 #[.string yc, .string ya, .bool yl]) hb2 hg2); have r2 : Blk w2 w1.heap.size 27 #[.string yc, .string ya, .bool yl] := P2.out.at_ (List.mem_cons_self ..); have l2 := r2.lt; have d0 := r2.cell 0; have d1 := r2.cell 1; have d2 := r2.cell 2; simp at d0 d1 d2; clear r2 hb2 hg2)
    | (go_at_call 26; refine (same_yes _ _ _ _).mono ?_; rintro e w3 ⟨rfl, hb3⟩; have P3 := Lib.hid (Pq.call (Pq.new P2.out 51 #[.string yc, .string ya, .bool yl]) hb3)))
  go_ret
  exact ⟨rfl, P3.out.pa, P3.out.pb, P3.out.gr⟩
end Go.Proofs.Ytcdikjomiomnpaa
