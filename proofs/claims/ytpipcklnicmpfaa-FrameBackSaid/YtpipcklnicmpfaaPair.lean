/-
  Two Streams side by side.
-/
import Derived.Test.YtpipcklnicmpfaaSame
namespace Go.Proofs.Ytpipcklnicmpfaa
open Go.RowKit
set_option linter.unusedVariables false
set_option linter.unusedSimpArgs false
structure Two (B : Nat) (W : World) (ga gb : Nat) (va vb : Value) (h m : Int) (sa sb : St) : Prop where
  a : Strm B W ga va h m sa
  b : Strm B W gb vb h m sb
  ne : ga ≠ gb
  vab : va.ownBlock ≠ some gb
  vba : vb.ownBlock ≠ some ga
  vv : vb.ownBlock = none ∨ vb.ownBlock ≠ va.ownBlock
section
variable {B : Nat} {w W W' : World} {ga gb : Nat} {va vb va' : Value} {h m : Int} {sa sb st : St} {ms : List Bys} {e : Int} {out : Value}
theorem Two.swap (T : Two B W ga gb va vb h m sa sb) : Two B W gb ga vb va h m sb sa :=
  ⟨T.b, T.a, T.ne.symm, T.vba, T.vab, by
    rcases T.vv with e | e
    · by_cases h0 : va.ownBlock = none
      · exact .inl h0
      · right; rw [e]; exact h0
    · exact .inr (Ne.symm e)⟩
theorem Two.below (T : Two B W ga gb va vb h m sa sb) (hb : Below W.heap.size W W') : Two B W' ga gb va vb h m sa sb :=
  ⟨T.a.below hb, T.b.below hb, T.ne, T.vab, T.vba, T.vv⟩
theorem Strm.lt {g : Nat} {v : Value} (hs : Strm B W g v h m st) : ∀ j, v.ownBlock = some j → B ≤ j ∧ j < W.heap.size := fun j e => hs.2.1.lt j e
theorem Two.turn (T : Two B W ga gb va vb h m sa sb) {r : Option Nat} (hr : r = va.ownBlock ∨ r = none) (hf : Fr W W' ga r) (ha : Strm B W' ga va' h m st) (hv : va'.ownBlock = va.ownBlock ∨ ∀ j, va'.ownBlock = some j → W.heap.size ≤ j) : Two B W' ga gb va' vb h m st sb := by
  have hgb := T.b.1.lt
  refine ⟨ha, ⟨hf.blk T.b.1 T.ne.symm ?_, hf.row T.b.2.1 T.vba ?_, T.b.2.2.1, T.b.2.2.2⟩, T.ne, ?_, T.vba, ?_⟩
  · rcases hr with rfl | rfl
    · exact T.vab
    · simp
  · rcases hr with rfl | rfl
    · exact T.vv
    · cases vb.ownBlock <;> simp
  · rcases hv with e | e
    · rw [e]; exact T.vab
    · intro c; have := e gb c; omega
  · rcases hv with e | e
    · rw [e]; exact T.vv
    · by_cases h0 : vb.ownBlock = none
      · exact .inl h0
      · right
        intro c
        obtain ⟨j, hj⟩ := Option.ne_none_iff_exists'.1 h0
        have h1 := (T.b.lt j hj).2
        have h2 := e j (by rw [← c, hj])
        omega
theorem Two.fed (T : Two B W ga gb va vb h m sa sb) (hF : Fin_ W W' ga B va.ownBlock h m ms e st out va') : Two B W' ga gb va' vb h m st sb :=
  T.turn (.inl rfl) hF.fr hF.strm hF.hv
theorem Two.reset (T : Two B W ga gb va vb h m sa sb) (hf : Fr W W' ga none) (ha : Strm B W' ga (.slice none 0 0) h m st) : Two B W' ga gb (.slice none 0 0) vb h m st sb :=
  T.turn (.inr rfl) hf ha (.inr (by simp [Value.ownBlock]))
theorem Two.rows (T : Two B W ga gb va vb h m sa sb) (hF : Fin_ W W' ga B va.ownBlock h m ms e st out va') {Bl n : Nat} {l : Value} {xs : List Value} (hl : W.ownsRow Bl 9 1 l n xs) (hg : ga < Bl) : W'.ownsRow Bl 9 1 l n xs :=
  hF.fr.row hl (own_ge hl hg) (own_apart hl T.a.2.1 (by decide))
theorem Two.newTwo (w1 : World) (B : Nat) (h m : Int) (hB : B ≤ w1.heap.size) : Two B ((w1.alloc (.cells #[.int .i64 h, .int .i64 m, .slice none 0 0, .int .i64 0, .int .i64 0] 70)).alloc (.cells #[.int .i64 h, .int .i64 m, .slice none 0 0, .int .i64 0, .int .i64 0] 70)) w1.heap.size (w1.heap.size + 1) (.slice none 0 0) (.slice none 0 0) h m (fresh 0) (fresh 0) := by
  have h2 := strm_new B (w1.alloc (.cells #[.int .i64 h, .int .i64 m, .slice none 0 0, .int .i64 0, .int .i64 0] 70)) h m (by simp; omega)
  simp only [World.size_alloc] at h2
  exact ⟨(strm_new B w1 h m hB).below (below_alloc _ _), h2, by omega, by simp [Value.ownBlock], by simp [Value.ownBlock], .inl (by simp [Value.ownBlock])⟩
end
theorem Ints.below {w w' : World} {B : Nat} {A : Option Addr} {ys : List Int} (h : Ints w B A ys) (hb : Below B w w') : Ints w' B A ys := fun k hk => by
  obtain ⟨b, off, e, hlt, hc, c1, c2⟩ := h k hk
  exact ⟨b, off, e, hlt, (hb.cell (p := ⟨b, off + k, none⟩) hlt).trans hc, c1, c2⟩
theorem own_drewN {w : World} {B e s n : Nat} {v : Value} {xs : List Value} (h : w.ownsRow B e s v n xs) (k : Nat) : (w.drewN k).ownsRow B e s v n xs := h
theorem below_drewN' (w : World) (k : Nat) : Below w.heap.size w (w.drewN k) := below_drewN (Below.refl _ _) k
def IsRow (k : IntKind) (w : World) (a : Option Addr) (len cap : Nat) (zs : List Int) : Prop :=
  (a = none ∧ len = 0 ∧ cap = 0 ∧ zs = []) ∨
  ∃ x, a = some x ∧ len ≤ cap ∧ cap ≤ maxLen ∧ zs.length = cap ∧ (∀ i, i < zs.length → w.cell? (x.add i) = some (.int k (zs.getD i 0))) ∧ ∀ n ∈ zs, (Lit.int k n).wf = true
theorem i64_wf {n : Int} (h : (Lit.int .i64 n).wf = true) : -9223372036854775808 ≤ n ∧ n ≤ 9223372036854775807 := by
  have hmin : IntKind.i64.min = -9223372036854775808 := rfl
  have hmax : IntKind.i64.max = 9223372036854775807 := rfl
  simp only [Lit.wf, Bool.and_eq_true, decide_eq_true_eq] at h; omega
theorem IsRow.ints {w : World} {a : Option Addr} {len cap : Nat} {zs : List Int} (h : IsRow .i64 w a len cap zs) : Ints w w.heap.size a (zs.take len) ∧ (zs.take len).length = len := by
  rcases h with ⟨_, rfl, _, rfl⟩ | ⟨x, rfl, hl, hm, hz, hc, hw⟩
  · exact ⟨fun k hk => by simp at hk, rfl⟩
  · have hlen : (zs.take len).length = len := by rw [List.length_take]; omega
    refine ⟨fun k hk => ?_, hlen⟩
    rw [hlen] at hk
    obtain ⟨b, off, spot⟩ := x
    have h0 := hc k (by omega)
    have hs : spot = none := by simpa [Addr.add] using World.cell?_spot (hc 0 (by omega))
    subst hs
    have e : (⟨b, off, none⟩ : Addr).add k = ⟨b, off + k, none⟩ := Addr.add_lit _ _ _
    rw [e] at h0
    have hg : (zs.take len).getD k 0 = zs.getD k 0 := by rw [List.getD, List.getD, List.getElem?_take, if_pos hk]
    have hmem : zs.getD k 0 ∈ zs := by rw [List.getD, List.getElem?_eq_getElem (by omega)]; exact List.getElem_mem _
    rw [hg]
    exact ⟨b, off, rfl, World.block_lt_of_cell? w _ h0, h0, i64_wf (hw _ hmem)⟩
end Go.Proofs.Ytpipcklnicmpfaa
