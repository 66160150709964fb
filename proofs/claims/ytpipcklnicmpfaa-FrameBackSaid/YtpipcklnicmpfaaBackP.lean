/-
  FrameBack: what the stream is that is wrapped one by one.
-/
import Derived.Test.YtpipcklnicmpfaaPair
namespace Go.Proofs.Ytpipcklnicmpfaa
open Go.RowKit
set_option linter.unusedVariables false
set_option linter.unusedSimpArgs false
def Strs (w : World) (B : Nat) (A : Option Addr) (ys : List Bys) : Prop :=
  ∀ k, k < ys.length → ∃ b off, A = some ⟨b, off, none⟩ ∧ b < B ∧ w.cell? ⟨b, off + k, none⟩ = some (.string (bstr (ys.getD k []))) ∧ (ys.getD k []).length ≤ 9223372036854775807
def Bools (w : World) (B : Nat) (A : Option Addr) (ys : List Bool) : Prop :=
  ∀ k, k < ys.length → ∃ b off, A = some ⟨b, off, none⟩ ∧ b < B ∧ w.cell? ⟨b, off + k, none⟩ = some (.bool (ys.getD k false))
/-- How long the stream may be. -/
def bnd (k : Nat) : Nat := k * 20000
theorem bnd_succ (k : Nat) : bnd (k + 1) = bnd k + 20000 := Nat.succ_mul k 20000
theorem bnd_le {k : Nat} (h : k ≤ 40) : bnd k ≤ 800000 := Nat.mul_le_mul_right 20000 h
/-- In the midst of FrameBack's loop. -/
structure BI (w W : World) (B Bl g : Nat) (h m : Int) (k : Nat) (S : Bys) (ms : List Bys) (sg : Nat) (out : Value) : Prop where
  cutE : cut h m S = ⟨ms, sg, [], 0⟩
  len : S.length ≤ bnd k
  many : ms.length ≤ k
  signs : sg ≤ k
  own : W.ownsRow Bl 9 1 out ms.length (strs ms)
  strm : Strm B W g (.slice none 0 0) h m (fresh 0)
  low : Bl ≤ W.heap.size
  hg : g < Bl
  bel : Below B w W
  hB : B ≤ W.heap.size
section
variable {w W W' : World} {B Bl g : Nat} {h m : Int} {k : Nat} {S : Bys} {ms : List Bys} {sg : Nat} {out out' : Value}
theorem BI.start (w W : World) (B g : Nat) (h m : Int) (hs : Strm B W g (.slice none 0 0) h m (fresh 0)) (hg : g < W.heap.size) (hb : Below B w W) (hB : B ≤ W.heap.size) : BI w W B W.heap.size g h m 0 [] [] 0 (.slice none 0 0) :=
  ⟨cut_nil h m, by simp, by simp, Nat.le_refl _, World.ownsRow_nil _ _ _ _, hs, Nat.le_refl _, hg, hb, hB⟩
theorem BI.below (f : BI w W B Bl g h m k S ms sg out) (hb : Below W.heap.size W W') : BI w W' B Bl g h m k S ms sg out :=
  ⟨f.cutE, f.len, f.many, f.signs, own_below f.own hb, f.strm.below hb, Nat.le_trans f.low hb.size, f.hg, f.bel.trans (hb.mono f.hB), Nat.le_trans f.hB hb.size⟩
/-- A sign or none, and a message that is not wrapped. -/
theorem BI.skip (f : BI w W B Bl g h m k S ms sg out) (hm : 0 ≤ m) (s : Bool) : BI w W B Bl g h m (k + 1) (if s then S ++ hdrV h 0 else S) ms (if s then sg + 1 else sg) out := by
  have h1 := f.len
  have hb := bnd_succ k
  have h2 := f.many
  have h3 := f.signs
  have hl := hdr_len h 0
  have hp := hsz_pos h
  have e1 : (S ++ hdrV h 0).length = S.length + (hdrV h 0).length := List.length_append
  cases s
  · exact ⟨f.cutE, (show S.length ≤ bnd (k + 1) by omega), by omega, (show sg ≤ k + 1 by omega), f.own, f.strm, f.low, f.hg, f.bel, f.hB⟩
  · exact ⟨cut_then_sign f.cutE hm, (show (S ++ hdrV h 0).length ≤ bnd (k + 1) by omega), by omega, (show sg + 1 ≤ k + 1 by omega), f.own, f.strm, f.low, f.hg, f.bel, f.hB⟩
/-- .. and one that is. -/
theorem BI.wrap (f : BI w W B Bl g h m k S ms sg out) (hm : 0 ≤ m) (hm2 : m ≤ 9999) (s : Bool) {y : Bys} (h1 : 0 < y.length) (h2 : (y.length : Int) ≤ m) {o : Obj} (hg : (W.alloc o).grownBy W' out.ownBlock) (ho : W'.ownsRow Bl 9 1 out' (ms.length + 1) (strs ms ++ [.string (bstr y)])) :
    BI w W' B Bl g h m (k + 1) ((if s then S ++ hdrV h 0 else S) ++ (hdrV h y.length ++ y)) (ms ++ [y]) (if s then sg + 1 else sg) out' := by
  have f2 := f.skip hm s
  have q1 := f2.len
  have l1 := f.len
  have hbs := bnd_succ k
  have l2 := f.many
  have l3 := f2.signs
  have hl := hdr_len h y.length
  have hl0 := hdr_len h 0
  have hp := hsz_pos h
  have hs : (if s then S ++ hdrV h 0 else S).length ≤ bnd k + 4 := by
    have e1 : (S ++ hdrV h 0).length = S.length + (hdrV h 0).length := List.length_append
    cases s
    · show S.length ≤ bnd k + 4; omega
    · show (S ++ hdrV h 0).length ≤ bnd k + 4; omega
  have hF : Fr W W' g out.ownBlock := ((Fr.refl W g _).alloc o).trans (Fr.of_grown hg (.inl rfl)) (.inl rfl)
  have hne := own_ge f.own f.hg
  have hb := f.strm.1.alloc o
  refine ⟨cut_then_wrap f2.cutE y h1 h2 hm2, ?_, ?_, l3, ?_, ⟨hb.grown hg (fun e => hne e.symm), World.ownsRow_nil _ _ _ _, f.strm.2.2.1, f.strm.2.2.2⟩, Nat.le_trans f.low hF.size, f.hg, ?_, Nat.le_trans f.hB hF.size⟩
  · have e1 : ((if s then S ++ hdrV h 0 else S) ++ (hdrV h y.length ++ y)).length = (if s then S ++ hdrV h 0 else S).length + ((hdrV h y.length).length + y.length) := by rw [List.length_append, List.length_append]
    omega
  · rw [List.length_append, List.length_singleton]; omega
  · rw [List.length_append, List.length_singleton]
    have e : strs (ms ++ [y]) = strs ms ++ [.string (bstr y)] := by simp [strs]
    rw [e]; exact ho
  · exact f.bel.trans (hF.below f.hB f.strm.2.2.2 (fun j e => by
      have h3 := f.strm.2.2.2
      have h4 := f.hg
      have h5 := (f.own.lt j e).1
      omega))
end
theorem bstr_two (a b : Bys) : Value.string (bstr a ++ bstr b) = .string (bstr (a ++ b)) := by rw [bstr_append]
end Go.Proofs.Ytpipcklnicmpfaa
