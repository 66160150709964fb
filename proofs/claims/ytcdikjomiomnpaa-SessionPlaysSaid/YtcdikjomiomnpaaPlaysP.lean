/-
  SessionPlays: the list of pairs, and the script as it came in.
-/
import Derived.Test.YtcdikjomiomnpaaPlayA
import Derived.Test.YtcdikjomiomnpaaThings
namespace Go.Proofs.Ytcdikjomiomnpaa
open Go.ChangeShapes Go.WideShapes Go.Deep Go.RowKit
set_option linter.unusedVariables false
set_option linter.unusedSimpArgs false
structure PS where
  b : Nat
  g : Nat
  k : Int
  n : Int
  m : Int
def PS.vals (p : PS) : List Value := [.pointer (some ⟨p.b, 0, none⟩), .pointer (some ⟨p.g, 0, none⟩)]
def flatP (ps : List PS) : List Value := ps.flatMap PS.vals
theorem flatP_len (ps : List PS) : (flatP ps).length = ps.length * 2 := by
  induction ps with
  | nil => rfl
  | cons p r ih => simp only [flatP, List.flatMap_cons, List.length_append, List.length_cons] at ih ⊢; rw [ih]; simp [PS.vals]; omega
theorem flatP_get (ps : List PS) (i : Nat) (p : PS) (h : ps[i]? = some p) : (flatP ps)[i * 2]? = some (.pointer (some ⟨p.b, 0, none⟩)) ∧ (flatP ps)[i * 2 + 1]? = some (.pointer (some ⟨p.g, 0, none⟩)) := by
  induction ps generalizing i with
  | nil => simp at h
  | cons q r ih =>
    cases i with
    | zero =>
      simp at h
      subst h
      simp [flatP, PS.vals]
    | succ i =>
      have e : flatP (q :: r) = [.pointer (some ⟨q.b, 0, none⟩), .pointer (some ⟨q.g, 0, none⟩)] ++ flatP r := rfl
      have h' : r[i]? = some p := by simpa using h
      have q1 := ih i h'
      rw [e, List.getElem?_append_right (by simp; omega), List.getElem?_append_right (by simp; omega)]
      have e1 : (i + 1) * 2 - 2 = i * 2 := by omega
      have e2 : (i + 1) * 2 + 1 - 2 = i * 2 + 1 := by omega
      simp only [List.length_cons, List.length_nil, Nat.zero_add]
      rw [e1, e2]
      exact q1
theorem Blk.apart {w : World} {x y : Nat} {t t' : TypeId} {cs cs' : Array Value} (h : Blk w x t cs) (h' : Blk w y t' cs') (hne : t ≠ t') : x ≠ y := by
  rintro rfl
  unfold Blk at h h'
  rw [h] at h'
  simp only [Option.some.injEq, Obj.cells.injEq] at h'
  exact hne h'.2.1
/-- One pair lies there, in a state that both tell alike. -/
def PS.here (p : PS) (B : Nat) (x : S × Int) (W : World) : Prop :=
  Bd p.k p.n p.m ∧ OkS p.k p.n p.m x.1 ∧ Wok x.1 x.2 ∧ Blk W p.b 63 x.1.cells ∧ Blk W p.g 65 (withW x.1 x.2).cells ∧ B ≤ p.b ∧ B ≤ p.g
/-- The list of pairs. -/
def Row (w0 : World) (v : Value) (ps : List PS) (f : Nat → S × Int) (W : World) : Prop :=
  Below w0.heap.size w0 W ∧ W.ownsRow w0.heap.size 47 2 v ps.length (flatP ps) ∧ (∀ (i : Nat) (p : PS), ps[i]? = some p → p.here w0.heap.size (f i) W) ∧
  ∀ (i j : Nat) (p q : PS), ps[i]? = some p → ps[j]? = some q → i ≠ j → p.b ≠ q.b ∧ p.g ≠ q.g
section
variable {w0 W W' : World} {v : Value} {ps : List PS} {f : Nat → S × Int} {p : PS} {B : Nat} {x : S × Int}
theorem PS.here.blocks (h : p.here B x W) (h1 : W'.heap[p.b]? = W.heap[p.b]?) (h2 : W'.heap[p.g]? = W.heap[p.g]?) : p.here B x W' :=
  ⟨h.1, h.2.1, h.2.2.1, h1.trans h.2.2.2.1, h2.trans h.2.2.2.2.1, h.2.2.2.2.2⟩
theorem Row.nil (w : World) : Row w (.slice none 0 0) [] f w := ⟨Below.refl _ _, World.ownsRow_nil _ _ _ _, fun i p h => by simp at h, fun i j p q h => by simp at h⟩
theorem owns_own {v : Value} {n : Nat} {xs : List Value} {k : Nat} (h : W.ownsRow B 47 2 v n xs) (hk : v.ownBlock = some k) : ∃ cur, Blk W k 47 cur := by
  rcases h.2 with ⟨rfl, _⟩ | ⟨g, cap, cur, rfl, _, hh, _⟩
  · simp [Value.ownBlock] at hk
  · simp only [Value.ownBlock, Option.some.injEq] at hk
    subst hk
    exact ⟨cur, hh⟩
theorem Row.call (h : Row w0 v ps f W) (hb : Below W.heap.size W W') : Row w0 v ps f W' := by
  refine ⟨h.1.trans (hb.mono h.1.size), ?_, fun i p hp => ?_, h.2.2.2⟩
  · obtain ⟨h1, h2⟩ := h.2.1
    refine ⟨h1, ?_⟩
    rcases h2 with h2 | ⟨g, cap, cur, e, hB, hh, r⟩
    · exact .inl h2
    · exact .inr ⟨g, cap, cur, e, hB, (hb.block g (Blk.lt hh)).trans hh, r⟩
  · have q := h.2.2.1 i p hp
    exact q.blocks (hb.block _ q.2.2.2.1.lt) (hb.block _ q.2.2.2.2.1.lt)
theorem Row.alloc (h : Row w0 v ps f W) (o : Obj) : Row w0 v ps f (W.alloc o) := h.call ((Below.refl _ _).alloc (Nat.le_refl _) _)
theorem Row.drewN (h : Row w0 v ps f W) (n : Nat) : Row w0 v ps f (W.drewN n) := ⟨⟨h.1.os, h.1.tape, h.1.output, h.1.size, h.1.block⟩, h.2.1, h.2.2.1, h.2.2.2⟩
theorem Row.drew (h : Row w0 v ps f W) : Row w0 v ps f W.drew := ⟨⟨h.1.os, h.1.tape, h.1.output, h.1.size, h.1.block⟩, h.2.1, h.2.2.1, h.2.2.2⟩
/-- One more pair. -/
theorem Row.add {v' : Value} (h : Row w0 v ps f W) (hown : W'.ownsRow w0.heap.size 47 2 v' (ps.length + 1) (flatP ps ++ p.vals)) (hg : W.grownBy W' v.ownBlock) (hp : p.here w0.heap.size x W)
    (hd : ∀ q ∈ ps, q.b ≠ p.b ∧ q.g ≠ p.g) : Row w0 v' (ps ++ [p]) (fun i => if i = ps.length then x else f i) W' := by
  have hne : ∀ (y : Nat) (t : TypeId) (cs : Array Value), Blk W y t cs → t ≠ 47 → some y ≠ v.ownBlock := fun y t cs hy ht e => by
    obtain ⟨cur, hc⟩ := owns_own h.2.1 e.symm
    exact hy.apart hc ht rfl
  have keep : ∀ (q : PS) (z : S × Int), q.here w0.heap.size z W → q.here w0.heap.size z W' := fun q z hq =>
    hq.blocks (hg.block _ hq.2.2.2.1.lt (hne _ _ _ hq.2.2.2.1 (by decide))) (hg.block _ hq.2.2.2.2.1.lt (hne _ _ _ hq.2.2.2.2.1 (by decide)))
  refine ⟨h.1.grown hg h.1.size (fun k hk => (h.2.1.lt k hk).1), ?_, fun i q hq => ?_, fun i j q r hq hr hij => ?_⟩
  · have e : flatP (ps ++ [p]) = flatP ps ++ p.vals := by simp [flatP]
    rw [e, List.length_append]; exact hown
  · by_cases hi : i = ps.length
    · subst hi
      simp at hq
      subst hq
      simp only [if_true]
      exact keep _ _ hp
    · have hlt : i < ps.length := by
        have := (List.getElem?_eq_some_iff.1 hq).1
        simp at this; omega
      rw [List.getElem?_append_left hlt] at hq
      simp only [hi, if_false]
      exact keep _ _ (h.2.2.1 i q hq)
  · have hi := (List.getElem?_eq_some_iff.1 hq).1
    have hj := (List.getElem?_eq_some_iff.1 hr).1
    simp at hi hj
    by_cases e1 : i = ps.length
    · have e2 : j < ps.length := by omega
      subst e1
      rw [List.getElem?_append_left e2] at hr
      simp at hq
      subst hq
      have := hd r (List.mem_of_getElem? hr)
      exact ⟨this.1.symm, this.2.symm⟩
    · have e1' : i < ps.length := by omega
      rw [List.getElem?_append_left e1'] at hq
      by_cases e2 : j = ps.length
      · subst e2
        simp at hr
        subst hr
        exact hd q (List.mem_of_getElem? hq)
      · rw [List.getElem?_append_left (by omega)] at hr
        exact h.2.2.2 i j q r hq hr hij
/-- A pair goes on. -/
theorem Row.step {i : Nat} (h : Row w0 v ps f W) (hp : ps[i]? = some p) (hg : Gr2 W W' p.b p.g) (hx : p.here w0.heap.size x W') : Row w0 v ps (fun j => if j = i then x else f j) W' := by
  have hi := h.2.2.1 i p hp
  refine ⟨hg.below h.1 h.1.size hi.2.2.2.2.2.1 hi.2.2.2.2.2.2, ?_, fun j q hq => ?_, h.2.2.2⟩
  · obtain ⟨h1, h2⟩ := h.2.1
    refine ⟨h1, ?_⟩
    rcases h2 with h2 | ⟨g, cap, cur, e, hB, hh, r⟩
    · exact .inl h2
    · refine .inr ⟨g, cap, cur, e, hB, hg.blk (t := 47) hh ?_ ?_, r⟩
      · exact Blk.apart (t := 47) (t' := 63) hh hi.2.2.2.1 (by decide)
      · exact Blk.apart (t := 47) (t' := 65) hh hi.2.2.2.2.1 (by decide)
  · by_cases e : j = i
    · subst e
      rw [hp] at hq
      injection hq with hq
      subst hq
      simp only [if_true]; exact hx
    · simp only [e, if_false]
      have q1 := h.2.2.1 j q hq
      have q2 := h.2.2.2 j i q p hq hp e
      refine q1.blocks (hg.2.2.2.2 _ q1.2.2.2.1.lt q2.1 ?_) (hg.2.2.2.2 _ q1.2.2.2.2.1.lt ?_ q2.2)
      · exact q1.2.2.2.1.apart hi.2.2.2.2.1 (by decide)
      · exact q1.2.2.2.2.1.apart hi.2.2.2.1 (by decide)
theorem Row.shape (h : Row w0 v ps f W) (hn : 0 < ps.length) : ∃ L cap, v = .slice (some ⟨L, 0, none⟩) ps.length cap := by
  rcases h.2.1.2 with ⟨_, h2⟩ | ⟨g, cap, cur, e, _⟩
  · omega
  · exact ⟨g, cap, e⟩
theorem Row.at_ {L cap i : Nat} (h : Row w0 (.slice (some ⟨L, 0, none⟩) ps.length cap) ps f W) (hp : ps[i]? = some p) :
    W.cell? ⟨L, i * 2, none⟩ = some (.pointer (some ⟨p.b, 0, none⟩)) ∧ W.cell? ⟨L, i * 2 + 1, none⟩ = some (.pointer (some ⟨p.g, 0, none⟩)) ∧ L < W.heap.size := by
  have hi := (List.getElem?_eq_some_iff.1 hp).1
  obtain ⟨q1, q2⟩ := flatP_get ps i p hp
  refine ⟨(h.2.1.cellAt (i * 2) (by omega)).trans q1, (h.2.1.cellAt (i * 2 + 1) (by omega)).trans q2, ?_⟩
  exact (h.2.1.lt L rfl).2
end
theorem zeros_here {W : World} {b g : Nat} {k n m : Int} {B : Nat} (hd : Bd k n m) (h1 : Blk W b 63 (S.cells ⟨k, n, m, 0, 0, 0, 0⟩)) (h2 : Blk W g 65 (S.cells ⟨k, n, m, 0, 0, 0, 0⟩)) (hb : B ≤ b) (hg : B ≤ g) :
    (PS.mk b g k n m).here B (⟨k, n, m, 0, 0, 0, 0⟩, 0) W :=
  ⟨hd, ⟨rfl, rfl, rfl, by simp, by have := hd.m0; simp; omega, by simp, by simpa using hd.n0, by simp, by simp, by simp⟩, ⟨by simp, by simp, by simp⟩, h1, h2, hb, hg⟩
theorem cell_two (w : World) (a b : Value) (t : TypeId) : ∀ j u, [a, b][j]? = some u → (w.alloc (.cells #[a, b] t)).cell? ((⟨w.heap.size, 0, none⟩ : Addr).add j) = some u := by
  intro j u hj
  match j, hj with
  | 0, hj => simp at hj; subst hj; simp [Addr.add]
  | 1, hj => simp at hj; subst hj; simp [Addr.add]
  | (j + 2), hj => simp at hj
/-- A script that came in. -/
def Script (w : World) (B : Nat) (A : Option Addr) (n : Nat) : Prop :=
  ∀ k, k < n → ∃ (b off : Nat) (v on nn : Int) (c a : ByteArray), A = some ⟨b, off, none⟩ ∧ b < B ∧ w.cell? ⟨b, off + k * 5, none⟩ = some (.int .i64 v) ∧ w.cell? ⟨b, off + k * 5 + 1, none⟩ = some (.int .i64 on) ∧ w.cell? ⟨b, off + k * 5 + 2, none⟩ = some (.int .i64 nn) ∧
    w.cell? ⟨b, off + k * 5 + 3, none⟩ = some (.string c) ∧ w.cell? ⟨b, off + k * 5 + 4, none⟩ = some (.string a) ∧
    -9223372036854775808 ≤ on ∧ on ≤ 9223372036854775807 ∧ -9223372036854775808 ≤ nn ∧ nn ≤ 9223372036854775807
theorem script_of {H : Type} {enc : TypeId × Value → H} {w : World} {base : Nat} {spare : Nat → Bool} {held : Bool} {A : Option Addr} {la ca : Nat} {d : DataW H} {p : List MemPlace}
    (h : DataW.Trod enc Try.prog w base spare held 41 (.slice A la ca) d p) : Script w w.heap.size A la ∧ la ≤ 9223372036854775807 := by
  obtain ⟨fuel, hf⟩ := h
  rcases open_slice_fields (fs := _) Try.underlying41 Try.underlying49 (by kernel_rfl) (by kernel_rfl) hf with ⟨hcs, _⟩ | ⟨a, len, cap, m, D, Pl, hcs, hb, hl, hm, hmm, hx, hi⟩
  · simp [Value.cells] at hcs
    obtain ⟨rfl, rfl, rfl⟩ := hcs
    exact ⟨fun k hk => by omega, by omega⟩
  · simp [Value.cells] at hcs
    obtain ⟨rfl, rfl, rfl⟩ := hcs
    refine ⟨fun k hk => ?_, by unfold maxLen at hm; omega⟩
    have hlm : la ≤ m := by rw [hmm]; split <;> omega
    obtain ⟨b, off, spot⟩ := a
    have hs : spot = none := by
      obtain ⟨ys, n, _, _, _, hfl⟩ := hi 0 (by omega)
      obtain ⟨v, y, hc, _, _⟩ := hfl 0 _ rfl
      simp only [Nat.zero_mul, Nat.zero_add] at hc
      exact spot_of hc
    subst hs
    obtain ⟨ys, n, _, _, _, hfl⟩ := hi k (by omega)
    obtain ⟨v0, y0, hc0, _, ht0⟩ := hfl 0 _ rfl
    obtain ⟨v1, y1, hc1, _, ht1⟩ := hfl 1 _ rfl
    obtain ⟨v2, y2, hc2, _, ht2⟩ := hfl 2 _ rfl
    obtain ⟨v3, y3, hc3, _, ht3⟩ := hfl 3 _ rfl
    obtain ⟨v4, y4, hc4, _, ht4⟩ := hfl 4 _ rfl
    obtain ⟨x0, hx0, _, hwf0⟩ := DataW.trod_int Try.underlying3 ht0
    obtain ⟨x1, hx1, _, hwf1⟩ := DataW.trod_int Try.underlying3 ht1
    obtain ⟨x2, hx2, _, hwf2⟩ := DataW.trod_int Try.underlying3 ht2
    obtain ⟨s1, hx3, _, _⟩ := DataW.trod_string Try.underlying9 ht3
    obtain ⟨s2, hx4, _, _⟩ := DataW.trod_string Try.underlying9 ht4
    simp only [List.cons.injEq, and_true] at hx0 hx1 hx2 hx3 hx4
    subst hx0 hx1 hx2 hx3 hx4
    rw [add_at] at hc0 hc1 hc2 hc3 hc4
    have hbd1 := wf_i64_bd hwf1
    have hbd2 := wf_i64_bd hwf2
    exact ⟨b, off, x0, x1, x2, s1, s2, rfl, World.block_lt_of_cell? w _ hc0, hc0, by rw [← hc1]; rfl, by rw [← hc2]; rfl, by rw [← hc3]; rfl, by rw [← hc4]; rfl, hbd1.1, hbd1.2, hbd2.1, hbd2.2⟩
end Go.Proofs.Ytcdikjomiomnpaa
