/-
  Slices of structs that came in, opened to cells (the words of the guide's page on structs), and the things of the session's statements.
-/
import Derived.Test.YtcdikjomiomnpaaAcquirer
import Derived.Deep.Slices
import Derived.Deep.Fields
import Derived.ChangeSame
import Derived.ProofKit
namespace Go.Proofs.Ytcdikjomiomnpaa
open Go.ChangeShapes Go.WideShapes Go.Deep Go.RowKit
set_option linter.unusedVariables false
section
variable {H : Type} {enc : TypeId × Value → H} {P : Program} {w : World} {base : Nat} {spare : Nat → Bool} {held : Bool}
theorem open_slice_fields {t e : TypeId} {fs : Array Field} {fuel : Nat} {cs : List Value} {x : DataW H × List MemPlace} (ht : P.underlying t = some (.slice e)) (he : P.underlying e = some (.struct fs))
    (hone : oneCellFields P fs = true) (hC : P.cellsOf e = fs.size) (h : DataW.trod enc P w base spare held fuel t cs = some x) :
    (cs = [.slice none 0 0] ∧ x = (.nil, [])) ∨
    ∃ (a : Addr) (len cap m : Nat) (D : Nat → DataW H) (Pl : Nat → List MemPlace), cs = [.slice (some a) len cap] ∧ base ≤ a.block ∧ len ≤ cap ∧ cap ≤ maxLen ∧ m = (if spare a.block then cap else len) ∧
      x = (.slice ((List.range len).map D) ((List.range (m - len)).map fun j => D (len + j)), MemPlace.row a (m * fs.size) ++ (List.range m).flatMap Pl) ∧
      ∀ i, i < m → ∃ (ys : List (DataW H × List MemPlace)) (n : Nat), D i = .agg (ys.map (·.1)) ∧ Pl i = ys.flatMap (·.2) ∧ ys.length = fs.size ∧
        ∀ (j : Nat) (f : Field), fs[j]? = some f → ∃ (v : Value) (y : DataW H × List MemPlace), w.cell? (a.add (i * fs.size + j)) = some v ∧ ys[j]? = some y ∧ DataW.trod enc P w base spare held n f.type [v] = some y := by
  rcases open_slice ht h with h0 | ⟨a, len, cap, m, n, D, Pl, hcs, hb, hl, hm, hmm, hx, hi⟩
  · exact .inl h0
  · refine .inr ⟨a, len, cap, m, D, Pl, hcs, hb, hl, hm, hmm, by rw [hC] at hx; exact hx, fun i him => ?_⟩
    obtain ⟨cs', hc, ht'⟩ := hi i him
    rw [hC] at hc
    obtain ⟨ys, n', hn', hy, hlen, hyl, hf⟩ := DataW.trod_struct he ht'
    obtain ⟨_, hcl, hat⟩ := World.cells?_some hc
    simp only [Prod.mk.injEq] at hy
    refine ⟨ys, n', hy.1, hy.2, hyl, fun j f hj => ?_⟩
    obtain ⟨ho, hk⟩ := hone_of hone j f hj
    have hjl : j < fs.size := (Array.getElem?_eq_some_iff.1 hj).1
    have hcell := hat j hjl
    have hv : cs'[j]? = some (cs'[j]'(by omega)) := List.getElem?_eq_getElem (by omega)
    have h1 := hf j f hj
    rw [ho, hk] at h1
    have hone' : (cs'.drop j).take 1 = [cs'[j]'(by omega)] := by
      rw [List.drop_eq_getElem_cons (by omega)]
      rfl
    rw [hone'] at h1
    have hys : ys[j]? = some (ys[j]'(by omega)) := List.getElem?_eq_getElem (by omega)
    refine ⟨_, _, ?_, hys, h1.trans hys⟩
    rw [← Go.Deep.add_add, hcell, hv]
end

theorem spot_of {w : World} {b off : Nat} {spot : Option Nat} {v : Value} (h : w.cell? ((⟨b, off, spot⟩ : Addr).add 0) = some v) : spot = none := by simpa [Addr.add] using World.cell?_spot h
theorem add_at (b off k : Nat) : (⟨b, off, none⟩ : Addr).add k = ⟨b, off + k, none⟩ := by unfold Addr.add; split <;> simp_all
theorem wf_i64_bd {n : Int} (h : (Lit.int .i64 n).wf = true) : -9223372036854775808 ≤ n ∧ n ≤ 9223372036854775807 := by
  have hmin : IntKind.i64.min = -9223372036854775808 := rfl
  have hmax : IntKind.i64.max = 9223372036854775807 := rfl
  simp only [Lit.wf, Bool.and_eq_true, decide_eq_true_eq] at h; omega

theorem things_of {H : Type} {enc : TypeId × Value → H} {w : World} {base : Nat} {spare : Nat → Bool} {held : Bool} {A : Option Addr} {la ca : Nat} {d : DataW H} {p : List MemPlace}
    (h : DataW.Trod enc Try.prog w base spare held 55 (.slice A la ca) d p) : Things w w.heap.size A la ∧ la ≤ 9223372036854775807 := by
  obtain ⟨fuel, hf⟩ := h
  rcases open_slice_fields (fs := _) Try.underlying55 Try.underlying57 (by kernel_rfl) (by kernel_rfl) hf with ⟨hcs, _⟩ | ⟨a, len, cap, m, D, Pl, hcs, hb, hl, hm, hmm, hx, hi⟩
  · simp [Value.cells] at hcs
    obtain ⟨rfl, rfl, rfl⟩ := hcs
    exact ⟨fun k hk => by omega, by omega⟩
  · simp [Value.cells] at hcs
    obtain ⟨rfl, rfl, rfl⟩ := hcs
    refine ⟨fun k hk => ?_, by unfold maxLen at hm; omega⟩
    have hlm : la ≤ m := by rw [hmm]; split <;> omega
    obtain ⟨b, off, spot⟩ := a
    have hs : spot = none := by
      obtain ⟨ys, n, _, _, _, hfl⟩ := hi 0 (by omega)
      obtain ⟨v, y, hc, _, _⟩ := hfl 0 _ rfl
      simp only [Nat.zero_mul, Nat.zero_add] at hc
      exact spot_of hc
    subst hs
    obtain ⟨ys, n, _, _, _, hfl⟩ := hi k (by omega)
    obtain ⟨v0, y0, hc0, _, ht0⟩ := hfl 0 _ rfl
    obtain ⟨v1, y1, hc1, _, ht1⟩ := hfl 1 _ rfl
    obtain ⟨v2, y2, hc2, _, ht2⟩ := hfl 2 _ rfl
    obtain ⟨x, hx0, _, hwf⟩ := DataW.trod_int Try.underlying3 ht0
    obtain ⟨s1, hx1, _, _⟩ := DataW.trod_string Try.underlying9 ht1
    obtain ⟨s2, hx2, _, _⟩ := DataW.trod_string Try.underlying9 ht2
    simp only [List.cons.injEq, and_true] at hx0 hx1 hx2
    subst hx0 hx1 hx2
    rw [add_at] at hc0 hc1 hc2
    have hbd := wf_i64_bd hwf
    exact ⟨b, off, x, s1, s2, rfl, World.block_lt_of_cell? w _ hc0, hc0, by rw [← hc1]; rfl, by rw [← hc2]; rfl, hbd.1, hbd.2⟩

theorem acquirer_walk (c : Int) (l1 : -9223372036854775808 ≤ c) (l2 : c ≤ 9223372036854775807) (d : Int) (l3 : -9223372036854775808 ≤ d) (l4 : d ≤ 9223372036854775807)
    (A : Option Addr) (la ca : Nat) (w : World) (h : Things w w.heap.size A la ∧ la ≤ 9223372036854775807) :
    Calls Try.prog 7 #[.int .i64 c, .int .i64 d, .slice A la ca] w fun e w' => e = .returned (.bool true) ∧ Below w.heap.size w w' :=
  acquirer_some c d _ _ A la ca w l1 l2 l3 l4 rfl rfl (pickP_lo _ _ (by omega)) (by have := pickP_hi c 100001 (by omega); omega) (pickP_lo _ _ (by omega)) (pickP_hi _ _ (by omega)) h.1 h.2
end Go.Proofs.Ytcdikjomiomnpaa
