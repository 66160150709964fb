/-
  FrameBack: its arguments as they read.
-/
import Derived.Test.YtpipcklnicmpfaaBackW
import Derived.Deep.Slices
import Derived.ChangeSame
namespace Go.Proofs.Ytpipcklnicmpfaa
open Go.ChangeShapes Go.WideShapes Go.Deep Go.RowKit
set_option linter.unusedVariables false
set_option linter.unusedSimpArgs false
def strOfV : Value → Bys
  | .string s => s.data.toList
  | _ => []
def boolOfV : Value → Bool
  | .bool b => b
  | _ => false
theorem range_get {α : Type} (f : Nat → α) (n k : Nat) (d : α) (h : k < n) : ((List.range n).map f).getD k d = f k := by
  rw [List.getD, List.getElem?_map, List.getElem?_range h]; rfl
section
variable {H : Type} {enc : TypeId × Value → H} {W : World} {a : Option Addr} {len cap : Nat} {d : DataW H} {p : List MemPlace}
theorem read_strs (h : DataW.Trod enc Try.prog W 0 (fun _ => true) true 27 (.slice a len cap) d p) : ∃ ys : List Bys, ys.length = len ∧ Strs W W.heap.size a ys ∧ len ≤ 9223372036854775807 := by
  obtain ⟨fuel, hf⟩ := h
  rcases open_slice1 Try.underlying27 (by kernel_rfl) hf with ⟨hcs, _⟩ | ⟨x, l, c, m, n, V, D, Pl, hcs, _, hl, hm, hmm, _, hi⟩
  · simp [Value.cells] at hcs
    obtain ⟨rfl, rfl, rfl⟩ := hcs
    exact ⟨[], rfl, fun k hk => by simp at hk, by omega⟩
  · simp [Value.cells] at hcs
    obtain ⟨rfl, rfl, rfl⟩ := hcs
    simp only [if_true] at hmm
    subst hmm
    unfold maxLen at hm
    refine ⟨(List.range len).map fun i => strOfV (V i), by simp, fun k hk => ?_, by omega⟩
    have hk' : k < len := by simpa using hk
    obtain ⟨h1, h2⟩ := hi k (by omega)
    obtain ⟨s, h3, h4, h5⟩ := DataW.trod_string Try.underlying9 h2
    obtain ⟨b, off, spot⟩ := x
    have hs : spot = none := by simpa [Addr.add] using World.cell?_spot (hi 0 (by omega)).1
    subst hs
    rw [Addr.add_lit] at h1
    rw [range_get _ _ _ _ hk']
    have hv : V k = .string s := by simpa using h3
    rw [hv] at h1 ⊢
    refine ⟨b, off, rfl, World.block_lt_of_cell? W _ h1, ?_, ?_⟩
    · rw [h1]; show some (Value.string s) = some (Value.string (bstr s.data.toList)); rw [bstr_of]
    · show s.data.toList.length ≤ _
      rw [size_list]; unfold maxLen at h5; omega
theorem read_bools (h : DataW.Trod enc Try.prog W 0 (fun _ => true) true 28 (.slice a len cap) d p) : ∃ ys : List Bool, ys.length = len ∧ Bools W W.heap.size a ys ∧ len ≤ 9223372036854775807 := by
  obtain ⟨fuel, hf⟩ := h
  rcases open_slice1 Try.underlying28 (by kernel_rfl) hf with ⟨hcs, _⟩ | ⟨x, l, c, m, n, V, D, Pl, hcs, _, hl, hm, hmm, _, hi⟩
  · simp [Value.cells] at hcs
    obtain ⟨rfl, rfl, rfl⟩ := hcs
    exact ⟨[], rfl, fun k hk => by simp at hk, by omega⟩
  · simp [Value.cells] at hcs
    obtain ⟨rfl, rfl, rfl⟩ := hcs
    simp only [if_true] at hmm
    subst hmm
    unfold maxLen at hm
    refine ⟨(List.range len).map fun i => boolOfV (V i), by simp, fun k hk => ?_, by omega⟩
    have hk' : k < len := by simpa using hk
    obtain ⟨h1, h2⟩ := hi k (by omega)
    obtain ⟨s, h3, h4⟩ := DataW.trod_bool Try.underlying4 h2
    obtain ⟨b, off, spot⟩ := x
    have hs : spot = none := by simpa [Addr.add] using World.cell?_spot (hi 0 (by omega)).1
    subst hs
    rw [Addr.add_lit] at h1
    rw [range_get _ _ _ _ hk']
    have hv : V k = .bool s := by simpa using h3
    rw [hv] at h1 ⊢
    exact ⟨b, off, rfl, World.block_lt_of_cell? W _ h1, h1⟩
end
theorem IsRow.len_le {k : IntKind} {w : World} {a : Option Addr} {len cap : Nat} {zs : List Int} (h : IsRow k w a len cap zs) : len ≤ 9223372036854775807 := by
  rcases h with ⟨_, rfl, _, _⟩ | ⟨_, _, hl, hm, _⟩
  · omega
  · unfold maxLen at hm; omega
theorem back_walk {w : World} (hd : Int) (h1 : -9223372036854775808 ≤ hd) (h2 : hd ≤ 9223372036854775807) (md : Int) (m1 : -9223372036854775808 ≤ md) (m2 : md ≤ 9223372036854775807)
    (A1 : Option Addr) (n1 c1 : Nat) (hA : ∃ ys : List Bys, ys.length = n1 ∧ Strs w w.heap.size A1 ys ∧ n1 ≤ 9223372036854775807) (A2 : Option Addr) (n2 c2 : Nat) (hB : ∃ ys : List Bool, ys.length = n2 ∧ Bools w w.heap.size A2 ys ∧ n2 ≤ 9223372036854775807)
    (A3 : Option Addr) (n3 c3 : Nat) (z3 : List Int) (hC : IsRow .i64 w A3 n3 c3 z3) :
    Calls Try.prog 4 #[.int .i64 hd, .int .i64 md, .slice A1 n1 c1, .slice A2 n2 c2, .slice A3 n3 c3] w fun e w' => e = .returned (.bool true) ∧ Below w.heap.size w w' := by
  obtain ⟨ss, l1, i1, b1⟩ := hA
  obtain ⟨ys, l2, i2, b2⟩ := hB
  obtain ⟨i3, l3⟩ := hC.ints
  exact back_run hd h1 h2 md m1 m2 A1 n1 c1 ss l1 A2 n2 c2 ys l2 A3 n3 c3 _ l3 b1 b2 hC.len_le _ _ rfl rfl w i1 i2 i3
end Go.Proofs.Ytpipcklnicmpfaa
