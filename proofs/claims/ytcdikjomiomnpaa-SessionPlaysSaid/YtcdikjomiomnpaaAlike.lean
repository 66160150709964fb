/-
  SessionAnew: the plain law (what a session says hangs on nothing but what it was told since Up), and the walk.
-/
import Derived.Test.YtcdikjomiomnpaaThings
import Derived.Test.YtcdikjomiomnpaaSigns
namespace Go.Proofs.Ytcdikjomiomnpaa
open Go.RowKit
set_option linter.unusedVariables false
set_option linter.unusedSimpArgs false

/-- What holds of a session whatever it is told. -/
def OkS (k n m : Int) (s : S) : Prop :=
  s.role = k ∧ s.echo = n ∧ s.answer = m ∧ 0 ≤ s.wait ∧ s.wait < m ∧ 0 ≤ s.quiet ∧ s.quiet ≤ n ∧ (s.state = 3 → s.quiet < n ∨ n = 0) ∧ 0 ≤ s.tries ∧ s.tries ≤ 3
/-- Two sessions that go on alike. -/
def Alike (s t : S) : Prop := s.state = t.state ∧ (s.state = 2 → s.wait = t.wait) ∧ (s.state = 3 → s.quiet = t.quiet) ∧ (s.state = 4 → s.wait = t.wait ∧ s.tries = t.tries)
theorem OkS.good {k n m : Int} {s : S} (h : OkS k n m s) (hk : k = 1 ∨ k = 2) (hn : 0 ≤ n) (hn1 : n ≤ 100000) (hm1 : m ≤ 100000) : Good s := by
  obtain ⟨h0, h1, h2, h3, h4, h5, h6, h7, h8, h9⟩ := h
  exact ⟨by rw [h0]; exact hk, by omega, by omega, by omega, by omega, by omega, by omega, by omega⟩
theorem heard_ok {k n m : Int} {s : S} (hn : 0 ≤ n) (h0 : s.role = k) (h1 : s.echo = n) (h2 : s.answer = m) (h3 : 0 ≤ s.wait) (h4 : s.wait < m) (h5 : 0 ≤ s.quiet) (h6 : s.quiet ≤ n) (h8 : 0 ≤ s.tries) (h9 : s.tries ≤ 3) : OkS k n m (heardS s) := by
  unfold heardS OkS
  by_cases h : s.state = 3
  · simp [h]; omega
  · simp [h]; omega
theorem step_ok {k n m : Int} {s : S} (q : Int) (c a : List UInt8) (hk : k = 1 ∨ k = 2) (hn : 0 ≤ n) (hm : 1 ≤ m) (h : OkS k n m s) : OkS k n m (stepS s q c a) := by
  have h' := h
  obtain ⟨h0, h1, h2, h3, h4, h5, h6, h7, h8, h9⟩ := h
  unfold stepS
  split
  · exact heard_ok hn h0 h1 h2 h3 h4 h5 h6 h8 h9
  split
  · unfold askedS
    split
    · exact h'
    · exact heard_ok hn h0 h1 h2 h3 h4 h5 h6 h8 h9
  split
  · exact heard_ok hn h0 h1 h2 h3 h4 h5 h6 h8 h9
  split
  · unfold tickS OkS
    by_cases k2 : s.state = 2
    · simp only [k2, if_true]
      refine ⟨h0, h1, h2, ?_, ?_, h5, h6, by simp [k2], h8, h9⟩ <;> (try simp only []) <;> (split <;> omega)
    by_cases k3 : s.state = 3
    · rw [if_neg k2, if_pos k3]
      split
      · exact ⟨h0, h1, h2, h3, h4, h5, h6, h7, h8, h9⟩
      · rename_i hr
        have hq := h7 k3
        have hne : ¬ s.echo = 0 := fun e => hr (.inr e)
        split
        · refine ⟨h0, h1, h2, h3, h4, ?_, ?_, ?_, h8, h9⟩ <;> (try simp only []) <;> omega
        · refine ⟨h0, h1, h2, ?_, ?_, ?_, ?_, ?_, ?_, ?_⟩ <;> (try simp only []) <;> omega
    by_cases k4 : s.state = 4
    · rw [if_neg k2, if_neg k3, if_pos k4]
      split
      · refine ⟨h0, h1, h2, ?_, ?_, h5, h6, ?_, h8, h9⟩ <;> (try simp only []) <;> omega
      · split
        · refine ⟨h0, h1, h2, ?_, ?_, h5, h6, ?_, h8, h9⟩ <;> (try simp only []) <;> omega
        · refine ⟨h0, h1, h2, ?_, ?_, h5, h6, ?_, ?_, ?_⟩ <;> (try simp only []) <;> omega
    · rw [if_neg k2, if_neg k3, if_neg k4]; exact h'
  split
  · unfold upS OkS
    split
    · refine ⟨h0, h1, h2, h3, h4, h5, h6, ?_, h8, h9⟩; simp
    · refine ⟨h0, h1, h2, ?_, ?_, h5, h6, ?_, h8, h9⟩ <;> simp; omega
  · refine ⟨h0, h1, h2, h3, h4, h5, h6, ?_, h8, h9⟩; simp [downS]

theorem heard_alike {s t : S} (h : s.state = t.state) (h2 : s.state = 2 → s.wait = t.wait) (h4 : s.state = 4 → s.wait = t.wait ∧ s.tries = t.tries) : Alike (heardS s) (heardS t) := by
  unfold heardS Alike
  refine ⟨h, h2, ?_, h4⟩
  intro h3
  simp only [] at h3
  simp [h3, ← h]
theorem step_alike {k n m : Int} {s t : S} (q : Int) (c : ByteArray) (a : List UInt8) (hs : OkS k n m s) (ht : OkS k n m t) (h : Alike s t) :
    Alike (stepS s q c.toList a) (stepS t q c.toList a) ∧ stepY s q c = stepY t q c := by
  obtain ⟨s0, s1, s2, -⟩ := hs
  obtain ⟨t0, t1, t2, -⟩ := ht
  have h' := h
  obtain ⟨hst, hw, hq, hx⟩ := h
  unfold stepS stepY
  by_cases q0 : q = 0
  · subst q0
    simp only [if_true]
    exact ⟨heard_alike hst hw hx, by simp⟩
  rw [if_neg q0, if_neg q0]
  by_cases q1 : q = 1
  · subst q1
    simp only [if_true]
    unfold askedS askedY askedA
    rw [← hst, s0, t0]
    split
    · exact ⟨h', rfl⟩
    · refine ⟨heard_alike ?_ ?_ ?_, rfl⟩
      · simp only []
      · simp only []
        split
        · intro e; exact absurd e (by omega)
        · split
          · intro e; exact absurd e (by omega)
          · exact hw
      · simp only []
        split
        · intro e; exact absurd e (by omega)
        · split
          · intro e; exact absurd e (by omega)
          · exact hx
  rw [if_neg q1, if_neg q1, if_neg q1, if_neg q1]
  by_cases q2 : q = 2
  · subst q2
    simp only [if_true]
    unfold answeredS
    rw [← hst]
    refine ⟨heard_alike ?_ ?_ ?_, by simp⟩
    · simp only []
    · simp only []
      split
      · intro e; exact absurd e (by omega)
      · exact hw
    · simp only []
      split
      · intro e; exact absurd e (by omega)
      · exact hx
  rw [if_neg q2, if_neg q2]
  by_cases q3 : q = 3
  · subst q3
    simp only [if_true]
    unfold tickS tickY
    by_cases k2 : s.state = 2
    · have e := hw k2
      have k2' : t.state = 2 := hst ▸ k2
      rw [if_pos k2, if_pos k2, if_pos k2', if_pos k2', s2, t2, ← e]
      refine ⟨⟨hst, fun _ => rfl, fun e3 => ?_, fun e4 => ?_⟩, rfl⟩
      · simp only [] at e3; omega
      · simp only [] at e4; omega
    have k2' : ¬ t.state = 2 := hst ▸ k2
    rw [if_neg k2, if_neg k2, if_neg k2', if_neg k2']
    by_cases k3 : s.state = 3
    · have e := hq k3
      have k3' : t.state = 3 := hst ▸ k3
      rw [if_pos k3, if_pos k3, if_pos k3', if_pos k3', s0, s1, t0, t1, ← e]
      split
      · exact ⟨h', rfl⟩
      · split
        · refine ⟨⟨hst, fun e2 => ?_, fun _ => rfl, fun e4 => ?_⟩, rfl⟩
          · simp only [] at e2; omega
          · simp only [] at e4; omega
        · refine ⟨⟨rfl, fun e2 => ?_, fun e3 => ?_, fun _ => ⟨rfl, rfl⟩⟩, rfl⟩
          · simp only [] at e2; omega
          · simp only [] at e3; omega
    have k3' : ¬ t.state = 3 := hst ▸ k3
    rw [if_neg k3, if_neg k3, if_neg k3', if_neg k3']
    by_cases k4 : s.state = 4
    · obtain ⟨e, e'⟩ := hx k4
      have k4' : t.state = 4 := hst ▸ k4
      rw [if_pos k4, if_pos k4, if_pos k4', if_pos k4', s2, t2, ← e, ← e']
      split
      · refine ⟨⟨hst, fun e2 => ?_, fun e3 => ?_, fun _ => ⟨rfl, rfl⟩⟩, rfl⟩
        · simp only [] at e2; omega
        · simp only [] at e3; omega
      · split
        · refine ⟨⟨rfl, fun e2 => ?_, fun e3 => ?_, fun e4 => ?_⟩, rfl⟩
          · simp only [] at e2; omega
          · simp only [] at e3; omega
          · simp only [] at e4; omega
        · refine ⟨⟨hst, fun e2 => ?_, fun e3 => ?_, fun _ => ⟨rfl, rfl⟩⟩, rfl⟩
          · simp only [] at e2; omega
          · simp only [] at e3; omega
    · have k4' : ¬ t.state = 4 := hst ▸ k4
      rw [if_neg k4, if_neg k4, if_neg k4', if_neg k4']
      exact ⟨h', rfl⟩
  rw [if_neg q3, if_neg q3, if_neg q3, if_neg q3]
  by_cases q4 : q = 4
  · subst q4
    simp only [if_true]
    unfold upS upY
    rw [s0, t0]
    split
    · refine ⟨⟨rfl, fun e2 => ?_, fun e3 => ?_, fun e4 => ?_⟩, rfl⟩
      · simp only [] at e2; omega
      · simp only [] at e3; omega
      · simp only [] at e4; omega
    · refine ⟨⟨rfl, fun e2 => rfl, fun e3 => ?_, fun e4 => ?_⟩, rfl⟩
      · simp only [] at e3; omega
      · simp only [] at e4; omega
  · rw [if_neg q4, if_neg q4, if_neg q4, if_neg q4]
    refine ⟨⟨rfl, fun e2 => ?_, fun e3 => ?_, fun e4 => ?_⟩, rfl⟩
    · simp only [downS] at e2; omega
    · simp only [downS] at e3; omega
    · simp only [downS] at e4; omega
end Go.Proofs.Ytcdikjomiomnpaa
