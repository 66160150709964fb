/-
  BitmapOf: the walk joined with the plain law.
-/
import Derived.Test.YtieloocmkgficaaOfW
namespace Go.Proofs.Ytieloocmkgficaa
open Go.RowKit
set_option linter.unusedVariables false
def IsRow (k : IntKind) (w : World) (a : Option Addr) (len cap : Nat) (zs : List Int) : Prop :=
  (a = none ∧ len = 0 ∧ cap = 0 ∧ zs = []) ∨
  ∃ x, a = some x ∧ len ≤ cap ∧ cap ≤ maxLen ∧ zs.length = cap ∧ (∀ i, i < zs.length → w.cell? (x.add i) = some (.int k (zs.getD i 0))) ∧ ∀ n ∈ zs, (Lit.int k n).wf = true
theorem take_get (zs : List Int) (n k : Nat) (h : k < n) : (zs.take n).getD k 0 = zs.getD k 0 := by
  rw [List.getD, List.getD, List.getElem?_take, if_pos h]
theorem IsRow.lies {w : World} {a : Option Addr} {len cap : Nat} {zs : List Int} (h : IsRow .i64 w a len cap zs) : InL w a (zs.take len) ∧ (zs.take len).length = len := by
  rcases h with ⟨_, rfl, _, rfl⟩ | ⟨x, rfl, hl, hm, hz, hc, hw⟩
  · exact ⟨fun k hk => by simp at hk, rfl⟩
  · have hlen : (zs.take len).length = len := by rw [List.length_take]; omega
    refine ⟨fun k hk => ?_, hlen⟩
    rw [hlen] at hk
    obtain ⟨b, off, spot⟩ := x
    have h0 := hc k (by omega)
    have hs : spot = none := by simpa [Addr.add] using World.cell?_spot (hc 0 (by omega))
    subst hs
    have e : (⟨b, off, none⟩ : Addr).add k = ⟨b, off + k, none⟩ := by unfold Addr.add; split <;> simp_all
    rw [e] at h0
    refine ⟨b, off, rfl, World.block_lt_of_cell? w _ h0, ?_⟩
    rw [take_get _ _ _ hk]; exact h0
theorem like_start : (0#64 == hB zeros 0 && 0#64 == hB zeros 64) = true := by
  rw [Bool.and_eq_true]; exact ⟨zero_like 0 (by omega), zero_like 64 (by omega)⟩
theorem of_walk (A : Option Addr) (len cap : Nat) (zs : List Int) {w : World} (h : IsRow .i64 w A len cap zs ∧ len ≤ 1048576) :
    Calls Try.prog 4 #[.slice A len cap] w fun v w' => v = .returned (.bool true) ∧ Below w.heap.size w w' := by
  obtain ⟨hI, hl⟩ := h.1.lies
  obtain ⟨l1, l2⟩ := of_like (zs.take len) 0#64 0#64 zeros zeros_len like_start
  obtain ⟨m1, m2⟩ := of_like (List.replicate len 3) 0#64 0#64 zeros zeros_len like_start
  have q1 := ofRow_len (zs.take len) zeros zeros_len
  have q2 := ofRow_len (List.replicate len 3) zeros zeros_len
  obtain ⟨⟨F, S, e⟩, h1⟩ : ∃ x, ofGo (zs.take len) 0#64 0#64 = x := ⟨_, rfl⟩
  obtain ⟨⟨r, e'⟩, h2⟩ : ∃ x, ofRow (zs.take len) zeros = x := ⟨_, rfl⟩
  obtain ⟨⟨F3, S3, e3⟩, h3⟩ : ∃ x, ofGo (List.replicate len 3) 0#64 0#64 = x := ⟨_, rfl⟩
  obtain ⟨⟨r3, e3'⟩, h4⟩ : ∃ x, ofRow (List.replicate len 3) zeros = x := ⟨_, rfl⟩
  rw [h1, h2] at l1 l2
  rw [h3, h4] at m1 m2
  rw [h2] at q1
  rw [h4] at q2
  simp only at l1 l2 m1 m2 q1 q2
  subst l2 m2
  exact of_run A len cap (zs.take len) F S F3 S3 e e3 r r3 hl h.2 w hI q1 q2 h1 h2 h3 h4 l1 m1
end Go.Proofs.Ytieloocmkgficaa
