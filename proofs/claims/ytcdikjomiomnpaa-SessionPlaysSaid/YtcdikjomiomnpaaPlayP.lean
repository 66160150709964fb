/-
  SessionPlays: the document's session beside the program's: only the wait may differ, where it is not looked at.
-/
import Derived.Test.YtcdikjomiomnpaaRefs
import Derived.Test.YtcdikjomiomnpaaAlike
namespace Go.Proofs.Ytcdikjomiomnpaa
open Go.RowKit
set_option linter.unusedVariables false
set_option linter.unusedSimpArgs false
def withW (s : S) (u : Int) : S := { s with wait := u }
def Wok (s : S) (u : Int) : Prop := 0 ≤ u ∧ u ≤ 100000 ∧ (s.state = 2 ∨ s.state = 4 → u = s.wait)
theorem heard_withW (s : S) (u : Int) : heardS (withW s u) = withW (heardS s) u := rfl
theorem heard_wok {s : S} {u : Int} (h : Wok s u) : Wok (heardS s) u := h
theorem down_wok {s : S} {u : Int} (h : Wok s u) : Wok (downS s) u := ⟨h.1, h.2.1, fun e => by simp [downS] at e⟩
theorem answered_withW (s : S) (u : Int) (c a : List UInt8) : answeredS (withW s u) c a = withW (answeredS s c a) u := by
  unfold answeredS withW heardS
  simp only []
theorem answered_wok {s : S} {u : Int} (c a : List UInt8) (h : Wok s u) : Wok (answeredS s c a) u := by
  obtain ⟨h0, h1, h2⟩ := h
  refine ⟨h0, h1, fun e => ?_⟩
  unfold answeredS heardS at e ⊢
  simp only [] at e ⊢
  split at e
  · omega
  · exact h2 e
theorem asked_withW (s : S) (u : Int) (c : List UInt8) : askedS (withW s u) c = withW (askedS s c) u := by
  unfold askedS withW heardS
  simp only []
  split <;> rfl
theorem askedY_withW (s : S) (u : Int) (c : ByteArray) : askedY (withW s u) c = askedY s c := rfl
theorem asked_wok {s : S} {u : Int} (c : List UInt8) (h : Wok s u) : Wok (askedS s c) u := by
  obtain ⟨h0, h1, h2⟩ := h
  refine ⟨h0, h1, fun e => ?_⟩
  unfold askedS heardS at e ⊢
  split at e
  · rename_i k; omega
  · rename_i k
    rw [if_neg k]
    simp only [] at e ⊢
    split at e
    · omega
    · split at e
      · omega
      · exact h2 e
section
variable (g : Nat) (s : S) (u : Int)
theorem ranswered_any (w : World) (c a : ByteArray) (hb : Blk w g 65 (withW s u).cells) :
    Calls Try.prog 38 #[.pointer (some ⟨g, 0, none⟩), .string c, .string a] w (TellsR w g (withW (answeredS s c.toList a.toList) u) quietY) := by
  rw [← answered_withW]
  obtain ⟨ro, ec, an, st, wa0, qu, tr⟩ := s
  obtain ⟨wa, hwa⟩ : ∃ wa, u = wa := ⟨_, rfl⟩
  subst hwa
  simp only [withW] at hb ⊢
  by_cases k2 : st = 2
  · subst k2
    by_cases kc : c.toList = [48, 48, 49]
    · by_cases ka : a.toList = [48, 48]
      · exact (ranswered_on g ro ec an u qu tr w c a hb (by simp [kc]) (by simp [ka])).mono fun e w' h => TellsR.of h (by simp [answeredS, kc, ka]) rfl
      · exact (ranswered_no2a g ro ec an u qu tr w c a hb (by simp [kc]) (by simp [ka])).mono fun e w' h => TellsR.of h (by simp [answeredS, kc, ka]) rfl
    · exact (ranswered_no2 g ro ec an u qu tr w c a hb (by simp [kc])).mono fun e w' h => TellsR.of h (by simp [answeredS, kc]) rfl
  by_cases k4 : st = 4
  · subst k4
    by_cases kc : c.toList = [51, 48, 49]
    · exact (ranswered_echo g ro ec an u qu tr w c a hb (by simp [kc])).mono fun e w' h => TellsR.of h (by simp [answeredS, kc]) rfl
    · exact (ranswered_no4 g ro ec an u qu tr w c a hb (by simp [kc])).mono fun e w' h => TellsR.of h (by simp [answeredS, kc]) rfl
  · exact (ranswered_no g ro ec an st u qu tr w c a hb (by simp [k2]) (by simp [k4])).mono fun e w' h => TellsR.of h (by simp [answeredS, k2, k4]) rfl
theorem rasked_any (w : World) (c : ByteArray) (hb : Blk w g 65 (withW s u).cells) (hr : s.role = 1 ∨ s.role = 2) :
    Calls Try.prog 37 #[.pointer (some ⟨g, 0, none⟩), .string c] w (TellsR w g (withW (askedS s c.toList) u) (askedY s c)) := by
  rw [← asked_withW, ← askedY_withW s u]
  obtain ⟨ro, ec, an, st, wa0, qu, tr⟩ := s
  simp only [withW] at hb hr ⊢
  by_cases k0 : st = 0
  · subst k0
    exact (rasked_down g ro ec an u qu tr w c hb).mono fun e w' h => TellsR.of h (by simp [askedS]) (by simp [askedY])
  have h0 : (st == 0) = false := by simp [k0]
  by_cases k1 : c.toList = [48, 48, 49]
  · rcases hr with rfl | rfl
    · exact (rasked_on g ec an st u qu tr w c hb h0 (by simp [k1])).mono fun e w' h => TellsR.of h (by simp [askedS, k0, k1]) (by simp [askedY, askedA, k0, k1])
    · exact (rasked_refused g ec an st u qu tr w c hb h0 (by simp [k1])).mono fun e w' h => TellsR.of h (by simp [askedS, k0, k1]) (by simp [askedY, askedA, k0, k1])
  have h1 : (c.toList == [48, 48, 49]) = false := by simp [k1]
  by_cases k2 : c.toList = [48, 48, 50]
  · exact (rasked_off g ro ec an st u qu tr w c hb h0 h1 (by simp [k2])).mono fun e w' h => TellsR.of h (by simp [askedS, k0, k2]) (by simp [askedY, askedA, k0, k2])
  have h2 : (c.toList == [48, 48, 50]) = false := by simp [k2]
  by_cases k3 : c.toList = [49, 48, 49]
  · exact (rasked_key g ro ec an st u qu tr w c hb h0 h1 h2 (by simp [k3])).mono fun e w' h => TellsR.of h (by simp [askedS, k0, k3]) (by simp [askedY, askedA, k0, k3])
  have h3 : (c.toList == [49, 48, 49]) = false := by simp [k3]
  by_cases k4 : c.toList = [51, 48, 49]
  · exact (rasked_echo g ro ec an st u qu tr w c hb h0 h1 h2 h3 (by simp [k4])).mono fun e w' h => TellsR.of h (by simp [askedS, k0, k4]) (by simp [askedY, askedA, k0, k4])
  · exact (rasked_other g ro ec an st u qu tr w c hb h0 h1 h2 h3 (by simp [k4])).mono fun e w' h => TellsR.of h (by simp [askedS, k0, k1, k2]) (by simp [askedY, askedA, k0, k1, k2, k3, k4])
theorem rup_any (hr : s.role = 1 ∨ s.role = 2) (hu : Wok s u) : ∃ u', Wok (upS s) u' ∧ ∀ w, Blk w g 65 (withW s u).cells → Calls Try.prog 33 #[.pointer (some ⟨g, 0, none⟩)] w (TellsR w g (withW (upS s) u') (upY s)) := by
  obtain ⟨ro, ec, an, st, wa, qu, tr⟩ := s
  obtain ⟨h0, h1, h2⟩ := hu
  simp only at hr
  rcases hr with rfl | rfl
  · exact ⟨u, ⟨h0, h1, fun e => by simp [upS] at e⟩, fun w hb => (rup_acq g ec an st u qu tr w hb).mono fun e w' h => TellsR.of h (by simp [upS, withW]) (by simp [upY])⟩
  · exact ⟨0, ⟨by omega, by omega, fun e => by simp [upS]⟩, fun w hb => (rup_iss g ec an st u qu tr w hb).mono fun e w' h => TellsR.of h (by simp [upS, withW]) (by simp [upY])⟩
theorem rtick_any {k n m : Int} (hok : OkS k n m s) (hk : k = 1 ∨ k = 2) (hn : 0 ≤ n) (hn1 : n ≤ 100000) (hm : 1 ≤ m) (hm1 : m ≤ 100000) (hu : Wok s u) :
    ∃ u', Wok (tickS s) u' ∧ ∀ w, Blk w g 65 (withW s u).cells → Calls Try.prog 25 #[.pointer (some ⟨g, 0, none⟩)] w (TellsR w g (withW (tickS s) u') (tickY s)) := by
  obtain ⟨ro, ec, an, st, wa, qu, tr⟩ := s
  obtain ⟨h0, h1, h2⟩ := hu
  obtain ⟨o0, o1, o2, o3, o4, o5, o6, o7, o8, o9⟩ := hok
  simp only at h2 o0 o1 o2 o3 o4 o5 o6 o7 o8 o9
  subst o0 o1 o2
  simp only [withW]
  by_cases k2 : st = 2
  · subst k2
    obtain rfl : u = wa := h2 (.inl rfl)
    by_cases hl : u + 1 < an
    · exact ⟨u + 1, ⟨by omega, by omega, fun _ => by simp [tickS, hl]⟩, fun w hb => (rsign_no g ro ec an u qu tr w hb (by omega) (by omega) (by rw [beq_eq_false_iff_ne]; omega)).mono fun e w' h => TellsR.of h (by simp [tickS, hl]) (by simp [tickY, hl])⟩
    · exact ⟨0, ⟨by omega, by omega, fun _ => by simp [tickS, hl]⟩, fun w hb => (rsign_asks g ro ec an u qu tr w hb (by omega) (by omega) (by rw [beq_iff_eq]; omega)).mono fun e w' h => TellsR.of h (by simp [tickS, hl]) (by simp [tickY, hl])⟩
  by_cases k3 : st = 3
  · subst k3
    rcases hk with rfl | rfl
    · exact ⟨u, ⟨by omega, by omega, fun e => by simp [tickS] at e⟩, fun w hb => (ron_acq g ec an u qu tr w hb).mono fun e w' h => TellsR.of h (by simp [tickS]) (by simp [tickY])⟩
    · by_cases k0 : ec = 0
      · subst k0
        exact ⟨u, ⟨by omega, by omega, fun e => by simp [tickS] at e⟩, fun w hb => (ron_none g an u qu tr w hb).mono fun e w' h => TellsR.of h (by simp [tickS]) (by simp [tickY])⟩
      · have q7 := o7 rfl
        by_cases hl : qu + 1 < ec
        · exact ⟨u, ⟨by omega, by omega, fun e => by simp [tickS, k0, hl] at e⟩, fun w hb => (ron_no g ec an u qu tr w hb (by omega) (by omega) (by omega) (by rw [beq_eq_false_iff_ne]; omega)).mono fun e w' h => TellsR.of h (by simp [tickS, k0, hl]) (by simp [tickY, k0, hl])⟩
        · exact ⟨0, ⟨by omega, by omega, fun _ => by simp [tickS, k0, hl]⟩, fun w hb => (ron_asks g ec an u qu tr w hb (by omega) (by omega) (by omega) (by rw [beq_iff_eq]; omega)).mono fun e w' h => TellsR.of h (by simp [tickS, k0, hl]) (by simp [tickY, k0, hl])⟩
  by_cases k4 : st = 4
  · subst k4
    obtain rfl : u = wa := h2 (.inr rfl)
    by_cases hl : u + 1 < an
    · exact ⟨u + 1, ⟨by omega, by omega, fun _ => by simp [tickS, hl]⟩, fun w hb => (rtest_no g ro ec an u qu tr w hb (by omega) (by omega) hl).mono fun e w' h => TellsR.of h (by simp [tickS, hl]) (by simp [tickY, hl])⟩
    · by_cases kt : tr = 3
      · subst kt
        exact ⟨u + 1, ⟨by omega, by omega, fun e => by simp [tickS, hl] at e⟩, fun w hb => (rtest_lost g ro ec an u qu w hb (by omega) (by omega) hl).mono fun e w' h => TellsR.of h (by simp [tickS, hl]) (by simp [tickY, hl])⟩
      · exact ⟨0, ⟨by omega, by omega, fun _ => by simp [tickS, hl, kt]⟩, fun w hb => (rtest_asks g ro ec an u qu tr w hb (by omega) (by omega) hl (by simp [kt]) (by omega) (by omega)).mono fun e w' h => TellsR.of h (by simp [tickS, hl, kt]) (by simp [tickY, hl, kt])⟩
  · exact ⟨u, ⟨by omega, by omega, fun e => by simp [tickS, k2, k3, k4] at e⟩, fun w hb => (rtick_idle g ro ec an st u qu tr w hb (by simp [k2]) (by simp [k3]) (by simp [k4])).mono fun e w' h => TellsR.of h (by simp [tickS, k2, k3, k4]) (by simp [tickY, k2, k3, k4])⟩
end
/-- Two blocks may have turned, no other old one. -/
def Gr2 (w w' : World) (b g : Nat) : Prop := w'.os = w.os ∧ w'.tape = w.tape ∧ w'.output = w.output ∧ w.heap.size ≤ w'.heap.size ∧ ∀ i, i < w.heap.size → i ≠ b → i ≠ g → w'.heap[i]? = w.heap[i]?
theorem Gr2.refl (w : World) (b g : Nat) : Gr2 w w b g := ⟨rfl, rfl, rfl, Nat.le_refl _, fun _ _ _ _ => rfl⟩
theorem Gr2.alloc {w w' : World} {b g : Nat} (h : Gr2 w w' b g) (o : Obj) : Gr2 w (w'.alloc o) b g :=
  ⟨h.1, h.2.1, h.2.2.1, Nat.le_trans h.2.2.2.1 (by simp), fun i h1 h2 h3 => (Below.heap_alloc w' o i (Nat.lt_of_lt_of_le h1 h.2.2.2.1)).trans (h.2.2.2.2 i h1 h2 h3)⟩
theorem Gr2.a {w w' w'' : World} {b g : Nat} (h : Gr2 w w' b g) (hg : w'.grownBy w'' (some b)) : Gr2 w w'' b g :=
  ⟨hg.os.trans h.1, hg.tape.trans h.2.1, hg.output.trans h.2.2.1, Nat.le_trans h.2.2.2.1 hg.size, fun i h1 h2 h3 => (hg.block i (Nat.lt_of_lt_of_le h1 h.2.2.2.1) (by intro e; injection e with e; exact h2 e)).trans (h.2.2.2.2 i h1 h2 h3)⟩
theorem Gr2.b {w w' w'' : World} {b g : Nat} (h : Gr2 w w' b g) (hg : w'.grownBy w'' (some g)) : Gr2 w w'' b g :=
  ⟨hg.os.trans h.1, hg.tape.trans h.2.1, hg.output.trans h.2.2.1, Nat.le_trans h.2.2.2.1 hg.size, fun i h1 h2 h3 => (hg.block i (Nat.lt_of_lt_of_le h1 h.2.2.2.1) (by intro e; injection e with e; exact h3 e)).trans (h.2.2.2.2 i h1 h2 h3)⟩
theorem Gr2.call {w w' w'' : World} {b g : Nat} (h : Gr2 w w' b g) (hb : Below w'.heap.size w' w'') : Gr2 w w'' b g :=
  ⟨hb.os.trans h.1, hb.tape.trans h.2.1, hb.output.trans h.2.2.1, Nat.le_trans h.2.2.2.1 hb.size, fun i h1 h2 h3 => (hb.block i (Nat.lt_of_lt_of_le h1 h.2.2.2.1)).trans (h.2.2.2.2 i h1 h2 h3)⟩
theorem Gr2.trans {w w' w'' : World} {b g : Nat} (h : Gr2 w w' b g) (k : Gr2 w' w'' b g) : Gr2 w w'' b g :=
  ⟨k.1.trans h.1, k.2.1.trans h.2.1, k.2.2.1.trans h.2.2.1, Nat.le_trans h.2.2.2.1 k.2.2.2.1, fun i h1 h2 h3 => (k.2.2.2.2 i (Nat.lt_of_lt_of_le h1 h.2.2.2.1) h2 h3).trans (h.2.2.2.2 i h1 h2 h3)⟩
theorem Gr2.below {B : Nat} {w0 w w' : World} {b g : Nat} (h : Gr2 w w' b g) (hb : Below B w0 w) (hB : B ≤ w.heap.size) (h1 : B ≤ b) (h2 : B ≤ g) : Below B w0 w' :=
  ⟨h.1.trans hb.os, h.2.1.trans hb.tape, h.2.2.1.trans hb.output, Nat.le_trans hb.size h.2.2.2.1, fun i hi => (h.2.2.2.2 i (Nat.lt_of_lt_of_le hi hB) (by omega) (by omega)).trans (hb.block i hi)⟩
theorem Gr2.blk {w w' : World} {b g j : Nat} {t : TypeId} {cs : Array Value} (h : Gr2 w w' b g) (hx : Blk w j t cs) (h1 : j ≠ b) (h2 : j ≠ g) : Blk w' j t cs := (h.2.2.2.2 j hx.lt h1 h2).trans hx
/-- A pair's two blocks, and what else the call laid. -/
def Pq (w : World) (b g : Nat) (cs ct : Array Value) (L : List (Nat × TypeId × Array Value)) (W : World) : Prop :=
  b < w.heap.size ∧ g < w.heap.size ∧ b ≠ g ∧ Gr2 w W b g ∧ Blk W b 63 cs ∧ Blk W g 65 ct ∧ ∀ x, x ∈ L → Blk W x.1 x.2.1 x.2.2 ∧ w.heap.size ≤ x.1
section
variable {w W W' : World} {b g : Nat} {cs ct cs' ct' : Array Value} {L : List (Nat × TypeId × Array Value)}
theorem Pq.new (h : Pq w b g cs ct L W) (t : TypeId) (c : Array Value) : Pq w b g cs ct ((W.heap.size, t, c) :: L) (W.alloc (.cells c t)) :=
  ⟨h.1, h.2.1, h.2.2.1, h.2.2.2.1.alloc _, h.2.2.2.2.1.alloc _, h.2.2.2.2.2.1.alloc _, fun x hx => by
    rcases List.mem_cons.1 hx with rfl | hx
    · exact ⟨Blk.new _ _ _, h.2.2.2.1.2.2.2.1⟩
    · exact ⟨(h.2.2.2.2.2.2 x hx).1.alloc _, (h.2.2.2.2.2.2 x hx).2⟩⟩
theorem Pq.a (h : Pq w b g cs ct L W) (hb : Blk W' b 63 cs') (hg : W.grownBy W' (some b)) : Pq w b g cs' ct L W' :=
  ⟨h.1, h.2.1, h.2.2.1, h.2.2.2.1.a hg, hb, h.2.2.2.2.2.1.grown hg (by intro e; injection e with e; exact h.2.2.1 e.symm), fun x hx =>
    ⟨(h.2.2.2.2.2.2 x hx).1.grown hg (by intro e; injection e with e; have := (h.2.2.2.2.2.2 x hx).2; have := h.1; omega), (h.2.2.2.2.2.2 x hx).2⟩⟩
theorem Pq.b_ (h : Pq w b g cs ct L W) (hb : Blk W' g 65 ct') (hg : W.grownBy W' (some g)) : Pq w b g cs ct' L W' :=
  ⟨h.1, h.2.1, h.2.2.1, h.2.2.2.1.b hg, h.2.2.2.2.1.grown hg (by intro e; injection e with e; exact h.2.2.1 e), hb, fun x hx =>
    ⟨(h.2.2.2.2.2.2 x hx).1.grown hg (by intro e; injection e with e; have := (h.2.2.2.2.2.2 x hx).2; have := h.2.1; omega), (h.2.2.2.2.2.2 x hx).2⟩⟩
theorem Pq.call (h : Pq w b g cs ct L W) (hb : Below W.heap.size W W') : Pq w b g cs ct L W' :=
  ⟨h.1, h.2.1, h.2.2.1, h.2.2.2.1.call hb, h.2.2.2.2.1.below hb h.2.2.2.2.1.lt, h.2.2.2.2.2.1.below hb h.2.2.2.2.2.1.lt, fun x hx =>
    ⟨(h.2.2.2.2.2.2 x hx).1.below hb (h.2.2.2.2.2.2 x hx).1.lt, (h.2.2.2.2.2.2 x hx).2⟩⟩
theorem Pq.pa (h : Pq w b g cs ct L W) : Blk W b 63 cs := h.2.2.2.2.1
theorem Pq.pb (h : Pq w b g cs ct L W) : Blk W g 65 ct := h.2.2.2.2.2.1
theorem Pq.gr (h : Pq w b g cs ct L W) : Gr2 w W b g := h.2.2.2.1
theorem Pq.at_ (h : Pq w b g cs ct L W) {x : Nat} {t : TypeId} {c : Array Value} (hx : (x, t, c) ∈ L) : Blk W x t c := (h.2.2.2.2.2.2 _ hx).1
end
end Go.Proofs.Ytcdikjomiomnpaa
