/-
  A session that the call made, from call to call: its cells, and that nothing old has turned; each method by its contract over that word.
-/
import Derived.Test.YtcdikjomiomnpaaAsks
import Derived.Deep.LoopGhost
namespace Go.Proofs.Ytcdikjomiomnpaa
open Go.RowKit
set_option linter.unusedVariables false

/-- Block b is the session s; it is the call's own; nothing below has turned. -/
def Ses (B : Nat) (w0 : World) (b : Nat) (s : S) (w : World) : Prop := Blk w b 63 s.cells ∧ B ≤ b ∧ Below B w0 w ∧ B ≤ w.heap.size
theorem Ses.lt {B : Nat} {w0 w : World} {b : Nat} {s : S} (h : Ses B w0 b s w) : b < w.heap.size := h.1.lt
theorem Ses.alloc {B : Nat} {w0 w : World} {b : Nat} {s : S} (h : Ses B w0 b s w) (o : Obj) : Ses B w0 b s (w.alloc o) := ⟨h.1.alloc o, h.2.1, h.2.2.1.alloc h.2.2.2 o, Nat.le_trans h.2.2.2 (by simp)⟩
theorem Ses.drewN {B : Nat} {w0 w : World} {b : Nat} {s : S} (h : Ses B w0 b s w) (n : Nat) : Ses B w0 b s (w.drewN n) := ⟨h.1, h.2.1, ⟨h.2.2.1.os, h.2.2.1.tape, h.2.2.1.output, h.2.2.1.size, h.2.2.1.block⟩, h.2.2.2⟩
theorem Ses.call {B : Nat} {w0 w w' : World} {b : Nat} {s : S} (h : Ses B w0 b s w) (hb : Below w.heap.size w w') : Ses B w0 b s w' :=
  ⟨h.1.below hb h.lt, h.2.1, h.2.2.1.trans (hb.mono h.2.2.2), Nat.le_trans h.2.2.2 hb.size⟩
theorem Ses.step {B : Nat} {w0 w w' : World} {b : Nat} {s s' : S} (h : Ses B w0 b s w) (hb : Blk w' b 63 s'.cells) (hg : w.grownBy w' (some b)) : Ses B w0 b s' w' :=
  ⟨hb, h.2.1, below_only h.2.2.1 h.2.2.2 hg h.2.1, Nat.le_trans h.2.2.2 hg.size⟩
/-- Another session's step leaves this one. -/
theorem Ses.other {B : Nat} {w0 w w' : World} {b b' : Nat} {s : S} (h : Ses B w0 b s w) (hne : b ≠ b') (hB : B ≤ b') (hg : w.grownBy w' (some b')) : Ses B w0 b s w' :=
  ⟨h.1.grown hg (by intro e; injection e with e; exact hne e), h.2.1, below_only h.2.2.1 h.2.2.2 hg hB, Nat.le_trans h.2.2.2 hg.size⟩

/-- The numbers are in their bounds. -/
def Good (s : S) : Prop := (s.role = 1 ∨ s.role = 2) ∧ 0 ≤ s.echo ∧ 0 ≤ s.wait ∧ s.wait ≤ 1000000 ∧ 0 ≤ s.quiet ∧ s.quiet ≤ 1000000 ∧ 0 ≤ s.tries ∧ s.tries ≤ 10

section
variable {B : Nat} {w0 w : World} {b : Nat} {s : S}
theorem tick_ses (s' : S) (c a : ByteArray) (l : Bool) (h : Ses B w0 b s w) (hg : Good s) (hs : tickS s = s') (hy : tickY s = ⟨c, a, l⟩) :
    Calls Try.prog 11 #[.pointer (some ⟨b, 0, none⟩)] w fun e w' => e = .returned (.agg #[.string c, .string a, .bool l]) ∧ Ses B w0 b s' w' ∧ w.grownBy w' (some b) := by
  obtain ⟨ro, ec, an, st, wa, qu, tr⟩ := s
  obtain ⟨h1, h2, h3, h4, h5, h6, h7, h8⟩ := hg
  refine (tick_any b ro ec an st wa qu tr w h.1 h1 h2 h3 h4 h5 h6 h7 h8).mono fun e w' ⟨he, hb, hg⟩ => ⟨by rw [he, hy]; rfl, ?_, hg⟩
  rw [hs] at hb
  exact h.step hb hg
theorem asked_ses (k : ByteArray) (s' : S) (c a : ByteArray) (l : Bool) (h : Ses B w0 b s w) (hr : s.role = 1 ∨ s.role = 2) (hs : askedS s k.toList = s') (hy : askedY s k = ⟨c, a, l⟩) :
    Calls Try.prog 15 #[.pointer (some ⟨b, 0, none⟩), .string k] w fun e w' => e = .returned (.agg #[.string c, .string a, .bool l]) ∧ Ses B w0 b s' w' ∧ w.grownBy w' (some b) := by
  obtain ⟨ro, ec, an, st, wa, qu, tr⟩ := s
  refine (asked_any b ro ec an st wa qu tr w k h.1 hr).mono fun e w' ⟨he, hb, hg⟩ => ⟨by rw [he, hy]; rfl, ?_, hg⟩
  rw [hs] at hb
  exact h.step hb hg
theorem answered_ses (k j : ByteArray) (s' : S) (h : Ses B w0 b s w) (hs : answeredS s k.toList j.toList = s') :
    Calls Try.prog 16 #[.pointer (some ⟨b, 0, none⟩), .string k, .string j] w fun e w' => e = .returned (.agg #[.string { data := #[] }, .string { data := #[] }, .bool false]) ∧ Ses B w0 b s' w' ∧ w.grownBy w' (some b) := by
  obtain ⟨ro, ec, an, st, wa, qu, tr⟩ := s
  refine (answered_any b ro ec an st wa qu tr w k j h.1).mono fun e w' ⟨he, hb, hg⟩ => ⟨by rw [he]; rfl, ?_, hg⟩
  rw [hs] at hb
  exact h.step hb hg
theorem up_ses (s' : S) (c a : ByteArray) (l : Bool) (h : Ses B w0 b s w) (hr : s.role = 1 ∨ s.role = 2) (hs : upS s = s') (hy : upY s = ⟨c, a, l⟩) :
    Calls Try.prog 20 #[.pointer (some ⟨b, 0, none⟩)] w fun e w' => e = .returned (.agg #[.string c, .string a, .bool l]) ∧ Ses B w0 b s' w' ∧ w.grownBy w' (some b) := by
  obtain ⟨ro, ec, an, st, wa, qu, tr⟩ := s
  refine (up_any b ro ec an st wa qu tr w h.1 hr).mono fun e w' ⟨he, hb, hg⟩ => ⟨by rw [he, hy]; rfl, ?_, hg⟩
  rw [hs] at hb
  exact h.step hb hg
theorem heard_ses (s' : S) (h : Ses B w0 b s w) (hs : heardS s = s') :
    Calls Try.prog 14 #[.pointer (some ⟨b, 0, none⟩)] w fun e w' => e = .returned (.tuple #[]) ∧ Ses B w0 b s' w' ∧ w.grownBy w' (some b) := by
  obtain ⟨ro, ec, an, st, wa, qu, tr⟩ := s
  refine (heard_any b ro ec an st wa qu tr w h.1).mono fun e w' ⟨he, hb, hg⟩ => ⟨he, ?_, hg⟩
  rw [hs] at hb
  exact h.step hb hg
theorem down_ses (s' : S) (h : Ses B w0 b s w) (hs : downS s = s') :
    Calls Try.prog 34 #[.pointer (some ⟨b, 0, none⟩)] w fun e w' => e = .returned (.tuple #[]) ∧ Ses B w0 b s' w' ∧ w.grownBy w' (some b) := by
  obtain ⟨ro, ec, an, st, wa, qu, tr⟩ := s
  refine (down_any b ro ec an st wa qu tr w h.1).mono fun e w' ⟨he, hb, hg⟩ => ⟨he, ?_, hg⟩
  rw [hs] at hb
  exact h.step hb hg
theorem state_ses (st : Int) (h : Ses B w0 b s w) (hs : s.state = st) :
    Calls Try.prog 13 #[.pointer (some ⟨b, 0, none⟩)] w fun e w' => e = .returned (.int .i64 st) ∧ w = w' := by
  obtain ⟨ro, ec, an, st, wa, qu, tr⟩ := s
  subst hs
  exact state_any b ro ec an st wa qu tr w h.1
theorem ready_ses (r : Bool) (h : Ses B w0 b s w) (hs : readyB s.state = r) :
    Calls Try.prog 18 #[.pointer (some ⟨b, 0, none⟩)] w fun e w' => e = .returned (.bool r) ∧ w = w' := by
  obtain ⟨ro, ec, an, st, wa, qu, tr⟩ := s
  subst hs
  exact ready_any b ro ec an st wa qu tr w h.1
theorem new_ses (ro ec an : Int) (w : World) (hB : B ≤ w.heap.size) (hb : Below B w0 w) (hr : ro = 1 ∨ ro = 2) (he0 : 0 ≤ ec) (he1 : ec ≤ 100000) (ha0 : 1 ≤ an) (ha1 : an ≤ 100000) :
    Calls Try.prog 19 #[.int .i64 ro, .int .i64 ec, .int .i64 an] w fun e w' => ∃ g, g = w.heap.size ∧ e = .returned (.tuple #[.pointer (some ⟨g, 0, none⟩), .int .i64 0]) ∧ Ses B w0 g ⟨ro, ec, an, 0, 0, 0, 0⟩ w' ∧ Below w.heap.size w w' :=
  (new_ok ro ec an w hr he0 he1 ha0 ha1).mono fun e w' ⟨he, hw⟩ => ⟨_, rfl, he, by rw [hw]; exact ⟨Blk.new _ _ _, hB, hb.alloc hB _, Nat.le_trans hB (by simp)⟩, by rw [hw]; exact (Below.refl _ _).alloc (Nat.le_refl _) _⟩
theorem pick_is (c n r : Int) (w : World) (h1 : -9223372036854775808 ≤ c) (h2 : c ≤ 9223372036854775807) (hn : 0 < n) (hm : n ≤ 9223372036854775807) (hp : pickP c n = r) :
    Calls Try.prog 9 #[.int .i64 c, .int .i64 n] w fun e w' => e = .returned (.int .i64 r) ∧ w = w' := by
  subst hp; exact pick_any c n w h1 h2 hn hm
theorem nothing_is (c a : ByteArray) (l r : Bool) (w : World) (h : nothingB ⟨c, a, l⟩ = r) :
    Calls Try.prog 12 #[.agg #[.string c, .string a, .bool l]] w fun e w' => e = .returned (.bool r) ∧ Below w.heap.size w w' := by
  subst h; exact nothing_any c a l w
theorem asks_is (c a k : ByteArray) (l r : Bool) (w : World) (h : asksB ⟨c, a, l⟩ k = r) :
    Calls Try.prog 17 #[.agg #[.string c, .string a, .bool l], .string k] w fun e w' => e = .returned (.bool r) ∧ Below w.heap.size w w' := by
  subst h; exact asks_any c a k l w
theorem answers_is (c a k j : ByteArray) (l r : Bool) (w : World) (h : answersB ⟨c, a, l⟩ k j = r) :
    Calls Try.prog 28 #[.agg #[.string c, .string a, .bool l], .string k, .string j] w fun e w' => e = .returned (.bool r) ∧ Below w.heap.size w w' := by
  subst h; exact answers_any c a k j l w
end

/-- Both sides of a said thing, at the constants. -/
theorem nothing_quiet : nothingB ⟨{ data := #[] }, { data := #[] }, false⟩ = true := by simp [nothingB, ByteArray.toList_eq]
theorem asks_001 : asksB ⟨{ data := #[48, 48, 49] }, { data := #[] }, false⟩ { data := #[48, 48, 49] } = true := by simp [asksB, ByteArray.toList_eq]
theorem asks_301 : asksB ⟨{ data := #[51, 48, 49] }, { data := #[] }, false⟩ { data := #[51, 48, 49] } = true := by simp [asksB, ByteArray.toList_eq]
theorem nothing_301 : nothingB ⟨{ data := #[51, 48, 49] }, { data := #[] }, false⟩ = false := by simp [nothingB, ByteArray.toList_eq]
theorem nothing_001 : nothingB ⟨{ data := #[48, 48, 49] }, { data := #[] }, false⟩ = false := by simp [nothingB, ByteArray.toList_eq]
theorem nothing_lost : nothingB ⟨{ data := #[] }, { data := #[] }, true⟩ = false := by simp [nothingB, ByteArray.toList_eq]

set_option maxHeartbeats 400000 in
/-- An issuer's session that is On. -/
theorem signedOn_ok (n m : Int) (w : World) (hn0 : 0 ≤ n) (hn1 : n ≤ 100000) (hm0 : 1 ≤ m) (hm1 : m ≤ 100000) :
    Calls Try.prog 10 #[.int .i64 n, .int .i64 m] w fun e w' => ∃ b, e = .returned (.pointer (some ⟨b, 0, none⟩)) ∧ Ses w.heap.size w b ⟨2, n, m, 3, 0, 0, 0⟩ w' := by
  go_enter Try.func10, Try.ntmps10
  go_wp2_with (first
    | (go_at_call 19; refine (new_ses (B := w.heap.size) (w0 := w) 2 n m _ (Nat.le_refl _) (Below.refl _ _) (.inr rfl) hn0 hn1 hm0 hm1).mono ?_; rintro e w1 ⟨g, hg, rfl, h1, hb1⟩; have HG := Lib.hid hg; clear hg)
    | (go_at_call 20; refine (up_ses (s := ⟨2, n, m, 0, 0, 0, 0⟩) ⟨2, n, m, 2, 0, 0, 0⟩ { data := #[48, 48, 49] } { data := #[] } false h1 (.inr rfl) rfl rfl).mono ?_; rintro e w2 ⟨rfl, h2, hg2⟩)
    | (go_at_call 17; refine (asks_is _ _ _ _ true _ asks_001).mono ?_; rintro e w3 ⟨rfl, hb3⟩; have h3 := (h2.alloc _).call hb3)
    | (go_at_call 16; refine (answered_ses _ _ ⟨2, n, m, 3, 0, 0, 0⟩ h3 (by simp [answeredS, heardS, ByteArray.toList_eq])).mono ?_; rintro e w4 ⟨rfl, h4, hg4⟩)
    | (go_at_call 12; refine (nothing_is _ _ _ true _ nothing_quiet).mono ?_; rintro e w5 ⟨rfl, hb5⟩; have h5 := (h4.alloc _).call hb5)
    | (go_at_call 13; refine (state_ses 3 h5 rfl).mono ?_; rintro e w' ⟨rfl, rfl⟩))
  go_ret
  exact ⟨g, rfl, h5⟩
end Go.Proofs.Ytcdikjomiomnpaa
