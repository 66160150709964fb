/-
  SessionPlays: one step of a script on a pair, any kind.
-/
import Derived.Test.YtcdikjomiomnpaaPlay
namespace Go.Proofs.Ytcdikjomiomnpaa
open Go.RowKit
set_option linter.unusedVariables false
set_option linter.unusedSimpArgs false
structure Bd (k n m : Int) : Prop where
  k : k = 1 ∨ k = 2
  n0 : 0 ≤ n
  n1 : n ≤ 100000
  m0 : 1 ≤ m
  m1 : m ≤ 100000
/-- Both sessions of a pair, told the same, say the same. -/
def Two (b g : Nat) (k n m : Int) (s : S) (u : Int) (fa fb : FuncId) (args : List Value) : Prop :=
  ∃ (s' : S) (u' : Int) (yc ya : ByteArray) (yl : Bool), OkS k n m s' ∧ Wok s' u' ∧
    (∀ W, Blk W b 63 s.cells → Calls Try.prog fa (.pointer (some ⟨b, 0, none⟩) :: args).toArray W fun e w' => e = .returned (.agg #[.string yc, .string ya, .bool yl]) ∧ Blk w' b 63 s'.cells ∧ W.grownBy w' (some b)) ∧
    (∀ W, Blk W g 65 (withW s u).cells → Calls Try.prog fb (.pointer (some ⟨g, 0, none⟩) :: args).toArray W fun e w' => e = .returned (.agg #[.string yc, .string ya, .bool yl]) ∧ Blk w' g 65 (withW s' u').cells ∧ W.grownBy w' (some g))
section
variable {b g : Nat} {k n m : Int} {s : S} {u : Int}
theorem two_tick (hd : Bd k n m) (hok : OkS k n m s) (hu : Wok s u) : Two b g k n m s u 11 25 [] := by
  obtain ⟨u', hu', QB⟩ := rtick_any g s u hok hd.k hd.n0 hd.n1 hd.m0 hd.m1 hu
  obtain ⟨yc, ya, yl, hy⟩ : ∃ yc ya yl, tickY s = ⟨yc, ya, yl⟩ := ⟨_, _, _, rfl⟩
  rw [hy] at QB
  have hg := hok.good hd.k hd.n0 hd.n1 hd.m1
  have hok' : OkS k n m (tickS s) := step_ok (k := k) (n := n) (m := m) (s := s) 3 [] [] hd.k hd.n0 hd.m0 hok
  refine ⟨tickS s, u', yc, ya, yl, hok', hu', fun W hW => ?_, QB⟩
  obtain ⟨ro, ec, an, st, wa, qu, tr⟩ := s
  obtain ⟨h1, h2, h3, h4, h5, h6, h7, h8⟩ := hg
  exact (tick_any b ro ec an st wa qu tr W hW h1 h2 h3 h4 h5 h6 h7 h8).mono fun e w' ⟨he, hb, hg⟩ => ⟨by rw [he, hy]; rfl, hb, hg⟩
theorem two_up (hd : Bd k n m) (hok : OkS k n m s) (hu : Wok s u) : Two b g k n m s u 20 33 [] := by
  obtain ⟨u', hu', QB⟩ := rup_any g s u (by rw [hok.1]; exact hd.k) hu
  obtain ⟨yc, ya, yl, hy⟩ : ∃ yc ya yl, upY s = ⟨yc, ya, yl⟩ := ⟨_, _, _, rfl⟩
  rw [hy] at QB
  have hr : s.role = 1 ∨ s.role = 2 := by rw [hok.1]; exact hd.k
  have hok' : OkS k n m (upS s) := step_ok (k := k) (n := n) (m := m) (s := s) 4 [] [] hd.k hd.n0 hd.m0 hok
  refine ⟨upS s, u', yc, ya, yl, hok', hu', fun W hW => ?_, QB⟩
  obtain ⟨ro, ec, an, st, wa, qu, tr⟩ := s
  exact (up_any b ro ec an st wa qu tr W hW hr).mono fun e w' ⟨he, hb, hg⟩ => ⟨by rw [he, hy]; rfl, hb, hg⟩
theorem two_asked (c : ByteArray) (hd : Bd k n m) (hok : OkS k n m s) (hu : Wok s u) : Two b g k n m s u 15 37 [.string c] := by
  obtain ⟨yc, ya, yl, hy⟩ : ∃ yc ya yl, askedY s c = ⟨yc, ya, yl⟩ := ⟨_, _, _, rfl⟩
  have hr : s.role = 1 ∨ s.role = 2 := by rw [hok.1]; exact hd.k
  have hok' : OkS k n m (askedS s c.toList) := step_ok (k := k) (n := n) (m := m) (s := s) 1 c.toList [] hd.k hd.n0 hd.m0 hok
  refine ⟨askedS s c.toList, u, yc, ya, yl, hok', asked_wok _ hu, fun W hW => ?_, fun W hW => ?_⟩
  · obtain ⟨ro, ec, an, st, wa, qu, tr⟩ := s
    exact (asked_any b ro ec an st wa qu tr W c hW hr).mono fun e w' ⟨he, hb, hg⟩ => ⟨by rw [he, hy]; rfl, hb, hg⟩
  · exact (rasked_any g s u W c hW hr).mono fun e w' ⟨he, hb, hg⟩ => ⟨by rw [he, hy]; rfl, hb, hg⟩
theorem two_answered (c a : ByteArray) (hd : Bd k n m) (hok : OkS k n m s) (hu : Wok s u) : Two b g k n m s u 16 38 [.string c, .string a] := by
  have hok' : OkS k n m (answeredS s c.toList a.toList) := step_ok (k := k) (n := n) (m := m) (s := s) 2 c.toList a.toList hd.k hd.n0 hd.m0 hok
  refine ⟨answeredS s c.toList a.toList, u, cNone, cNone, false, hok', answered_wok _ _ hu, fun W hW => ?_, fun W hW => ?_⟩
  · obtain ⟨ro, ec, an, st, wa, qu, tr⟩ := s
    exact (answered_any b ro ec an st wa qu tr W c a hW).mono fun e w' ⟨he, hb, hg⟩ => ⟨by rw [he]; rfl, hb, hg⟩
  · exact (ranswered_any g s u W c a hW).mono fun e w' ⟨he, hb, hg⟩ => ⟨by rw [he]; rfl, hb, hg⟩
end
def Played (w : World) (b g : Nat) (k n m : Int) (e : Ending) (w' : World) : Prop :=
  e = .returned (.bool true) ∧ ∃ (s' : S) (u' : Int), OkS k n m s' ∧ Wok s' u' ∧ Blk w' b 63 s'.cells ∧ Blk w' g 65 (withW s' u').cells ∧ Gr2 w w' b g
theorem Pq.sub {w W : World} {b g : Nat} {cs ct : Array Value} {L L' : List (Nat × TypeId × Array Value)} (h : Pq w b g cs ct L W) (hs : ∀ x, x ∈ L' → x ∈ L) : Pq w b g cs ct L' W :=
  ⟨h.1, h.2.1, h.2.2.1, h.2.2.2.1, h.2.2.2.2.1, h.2.2.2.2.2.1, fun x hx => h.2.2.2.2.2.2 x (hs x hx)⟩
set_option maxHeartbeats 1000000 in
theorem play_ticks (b g : Nat) (on nn : Int) (co an : ByteArray) (k n m : Int) (s : S) (u : Int) (w : World) (hd : Bd k n m) (hok : OkS k n m s) (hu : Wok s u)
    (hn1 : -9223372036854775808 ≤ nn) (hn2 : nn ≤ 9223372036854775807) (hP : Pq w b g s.cells (withW s u).cells [] w) :
    Calls Try.prog 22 #[.agg #[.pointer (some ⟨b, 0, none⟩), .pointer (some ⟨g, 0, none⟩)], .agg #[.int .i64 7, .int .i64 on, .int .i64 nn, .string co, .string an]] w (Played w b g k n m) := by
  obtain ⟨q, hq⟩ : ∃ q, pickP nn 40 = q := ⟨_, rfl⟩
  have hq0 : 0 ≤ q := by rw [← hq]; exact pickP_lo _ _ (by omega)
  have hq1 : q < 40 := by rw [← hq]; exact pickP_hi _ _ (by omega)
  have HQ := Lib.hid hq
  have P := Lib.hid hP
  have HD := Lib.hid hd
  have HOK := Lib.hid hok
  have HU := Lib.hid hu
  clear hq hP hd hok hu
  go_enter Try.func22, Try.ntmps22
  go_wp2
  go_loopw [13] (fun i wr => ∃ (j : Nat) (s : S) (u : Int), (j : Int) ≤ q ∧ i = .int .i64 j ∧ Hid (OkS k n m s) ∧ Hid (Wok s u) ∧ Hid (Pq w b g s.cells (withW s u).cells [(w.heap.size + 1, 49, #[.int .i64 7, .int .i64 on, .int .i64 nn, .string co, .string an]), (w.heap.size, 47, #[.pointer (some ⟨b, 0, none⟩), .pointer (some ⟨g, 0, none⟩)])] wr)) (fun i _ => 40 - (intOf i).toNat)
  case atStart => exact ⟨0, s, u, by omega, rfl, HOK, HU, Lib.hid (by simpa using (P.out.new 47 #[.pointer (some ⟨b, 0, none⟩), .pointer (some ⟨g, 0, none⟩)]).new 49 #[.int .i64 7, .int .i64 on, .int .i64 nn, .string co, .string an])⟩
  case round =>
    clear P HOK HU
    obtain ⟨j, s, u, hj, rfl, HOK, HU, P⟩ := hrel
    have r0 := P.out.at_ (x := w.heap.size) (List.mem_cons_of_mem _ (List.mem_cons_self ..))
    have r1 := P.out.at_ (x := w.heap.size + 1) (List.mem_cons_self ..)
    have l0 := r0.lt
    have l1 := r1.lt
    have o2 := r1.cell 2
    have z0 := r0.cell 0
    have z1 := r0.cell 1
    simp at o2 z0 z1
    by_cases hlt : (j : Int) < q
    · have hdl : decide ((j : Int) < q) = true := decide_eq_true hlt
      obtain ⟨s', u', yc, ya, yl, hok', hu', QA0, QB0⟩ := two_tick (b := b) (g := g) HD.out HOK.out HU.out
      have QA := Lib.hid QA0
      have QB := Lib.hid QB0
      have HOK' := Lib.hid hok'
      have HU' := Lib.hid hu'
      clear QA0 QB0 hok' hu' r0 r1
      go_wp2_with (first
        | (go_at_call 9; refine (pick_is nn 40 q _ hn1 hn2 (by omega) (by omega) HQ.out).mono ?_; rintro e w' ⟨rfl, rfl⟩)
        | (go_at_call 11; refine (QA.out _ P.out.pa).mono ?_; rintro e w1 ⟨rfl, hb1, hg1⟩; have P1 := Lib.hid (Pq.a P.out hb1 hg1); have r0 := P1.out.at_ (x := w.heap.size) (List.mem_cons_of_mem _ (List.mem_cons_self ..)); have m0 := r0.lt; have x0 := r0.cell 0; have x1 := r0.cell 1; simp at x0 x1; clear r0 hb1 hg1)
        | (go_at_call 25; refine (QB.out _ (Pq.pb (Pq.new P1.out _ _))).mono ?_; rintro e w2 ⟨rfl, hb2, hg2⟩; have P2 := Lib.hid (Pq.b_ (Pq.new P1.out 27 #[.string yc, .string ya, .bool yl]) hb2 hg2); have r2 : Blk w2 w1.heap.size 27 #[.string yc, .string ya, .bool yl] := P2.out.at_ (List.mem_cons_self ..); have l2 := r2.lt; have d0 := r2.cell 0; have d1 := r2.cell 1; have d2 := r2.cell 2; simp at d0 d1 d2; clear r2 hb2 hg2)
        | (go_at_call 26; refine (same_yes _ _ _ _).mono ?_; rintro e w3 ⟨rfl, hb3⟩; have P3 := Lib.hid (Pq.call (Pq.new P2.out 51 #[.string yc, .string ya, .bool yl]) hb3)))
      go_roundw
      case rel => exact ⟨j + 1, s', u', by omega, by go_num, HOK', HU', Lib.hid (P3.out.sub (fun x hx => List.mem_cons_of_mem _ (List.mem_cons_of_mem _ hx)))⟩
      case measure => simp [intOf]; omega
    · have hdl : decide ((j : Int) < q) = false := decide_eq_false hlt
      go_wp2_with (first
        | (go_at_call 9; refine (pick_is nn 40 q _ hn1 hn2 (by omega) (by omega) HQ.out).mono ?_; rintro e w' ⟨rfl, rfl⟩))
      go_ret
      exact ⟨rfl, s, u, HOK.out, HU.out, P.out.pa, P.out.pb, P.out.gr⟩
theorem play_any (b g : Nat) (v on nn : Int) (co an : ByteArray) (k n m : Int) (s : S) (u : Int) (w : World) (hd : Bd k n m) (hok : OkS k n m s) (hu : Wok s u)
    (hn1 : -9223372036854775808 ≤ nn) (hn2 : nn ≤ 9223372036854775807) (hb : Blk w b 63 s.cells) (hg : Blk w g 65 (withW s u).cells) (hne : b ≠ g) :
    Calls Try.prog 22 #[.agg #[.pointer (some ⟨b, 0, none⟩), .pointer (some ⟨g, 0, none⟩)], .agg #[.int .i64 v, .int .i64 on, .int .i64 nn, .string co, .string an]] w (Played w b g k n m) := by
  have hP : Pq w b g s.cells (withW s u).cells [] w := ⟨hb.lt, hg.lt, hne, Gr2.refl _ _ _, hb, hg, fun x hx => by cases hx⟩
  have hr : s.role = 1 ∨ s.role = 2 := by rw [hok.1]; exact hd.k
  by_cases e1 : v = 1
  · subst e1
    obtain ⟨s', u', yc, ya, yl, h1, h2, QA, QB⟩ := two_up (b := b) (g := g) hd hok hu
    exact (play_up b g on nn co an _ _ _ _ yc ya yl w hP (Lib.hid QA) (Lib.hid QB)).mono fun e w' ⟨q0, q1, q2, q3⟩ => ⟨q0, s', u', h1, h2, q1, q2, q3⟩
  by_cases e2 : v = 2
  · subst e2
    refine (play_down b g on nn co an _ _ (downS s).cells (withW (downS s) u).cells w hP (Lib.hid fun W hW => ?_) (Lib.hid fun W hW => ?_)).mono fun e w' ⟨q0, q1, q2, q3⟩ => ⟨q0, downS s, u, step_ok (k := k) (n := n) (m := m) (s := s) 5 [] [] hd.k hd.n0 hd.m0 hok, down_wok hu, q1, q2, q3⟩
    · obtain ⟨ro, ec, an, st, wa, qu, tr⟩ := s
      exact down_any b ro ec an st wa qu tr W hW
    · obtain ⟨ro, ec, an, st, wa, qu, tr⟩ := s
      exact rdown_any g ro ec an st u qu tr W hW
  by_cases e3 : v = 3
  · subst e3
    refine (play_heard b g on nn co an _ _ (heardS s).cells (withW (heardS s) u).cells w hP (Lib.hid fun W hW => ?_) (Lib.hid fun W hW => ?_)).mono fun e w' ⟨q0, q1, q2, q3⟩ => ⟨q0, heardS s, u, step_ok (k := k) (n := n) (m := m) (s := s) 0 [] [] hd.k hd.n0 hd.m0 hok, heard_wok hu, q1, q2, q3⟩
    · obtain ⟨ro, ec, an, st, wa, qu, tr⟩ := s
      exact heard_any b ro ec an st wa qu tr W hW
    · obtain ⟨ro, ec, an, st, wa, qu, tr⟩ := s
      exact rheard_any g ro ec an st u qu tr W hW
  by_cases e4 : v = 4
  · subst e4
    obtain ⟨s', u', yc, ya, yl, h1, h2, QA, QB⟩ := two_asked (b := b) (g := g) co hd hok hu
    exact (play_asked b g on nn co an _ _ _ _ yc ya yl w hP (Lib.hid QA) (Lib.hid QB)).mono fun e w' ⟨q0, q1, q2, q3⟩ => ⟨q0, s', u', h1, h2, q1, q2, q3⟩
  by_cases e5 : v = 5
  · subst e5
    obtain ⟨s', u', yc, ya, yl, h1, h2, QA, QB⟩ := two_answered (b := b) (g := g) co an hd hok hu
    exact (play_answered b g on nn co an _ _ _ _ yc ya yl w hP (Lib.hid QA) (Lib.hid QB)).mono fun e w' ⟨q0, q1, q2, q3⟩ => ⟨q0, s', u', h1, h2, q1, q2, q3⟩
  by_cases e6 : v = 6
  · subst e6
    obtain ⟨s', u', yc, ya, yl, h1, h2, QA, QB⟩ := two_tick (b := b) (g := g) hd hok hu
    exact (play_tick b g on nn co an _ _ _ _ yc ya yl w hP (Lib.hid QA) (Lib.hid QB)).mono fun e w' ⟨q0, q1, q2, q3⟩ => ⟨q0, s', u', h1, h2, q1, q2, q3⟩
  by_cases e7 : v = 7
  · subst e7
    exact play_ticks b g on nn co an k n m s u w hd hok hu hn1 hn2 hP
  by_cases e8 : v = 8
  · subst e8
    have q0 := pickP_lo nn 2 (by omega)
    have q1 := pickP_hi nn 2 (by omega)
    by_cases hq : pickP nn 2 = 0
    · obtain ⟨s', u', yc, ya, yl, h1, h2, QA, QB⟩ := two_answered (b := b) (g := g) { data := #[48, 48, 49] } { data := #[48, 48] } hd hok hu
      exact (play_own0 b g on nn co an _ _ _ _ yc ya yl w hP hn1 hn2 hq (Lib.hid QA) (Lib.hid QB)).mono fun e w' ⟨q0, q1, q2, q3⟩ => ⟨q0, s', u', h1, h2, q1, q2, q3⟩
    · obtain ⟨s', u', yc, ya, yl, h1, h2, QA, QB⟩ := two_answered (b := b) (g := g) { data := #[51, 48, 49] } { data := #[48, 48] } hd hok hu
      exact (play_own1 b g on nn co an _ _ _ _ yc ya yl w hP hn1 hn2 (by omega) (Lib.hid QA) (Lib.hid QB)).mono fun e w' ⟨q0, q1, q2, q3⟩ => ⟨q0, s', u', h1, h2, q1, q2, q3⟩
  · exact (play_none b g v on nn co an _ _ w hP (by simp [e1]) (by simp [e2]) (by simp [e3]) (by simp [e4]) (by simp [e5]) (by simp [e6]) (by simp [e7]) (by simp [e8])).mono fun e w' ⟨q0, q1, q2, q3⟩ => ⟨q0, s, u, hok, hu, q1, q2, q3⟩
end Go.Proofs.Ytcdikjomiomnpaa
