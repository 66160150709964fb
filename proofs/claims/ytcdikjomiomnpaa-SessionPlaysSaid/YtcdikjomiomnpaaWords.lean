/-
  Words on memory for the session's proofs: a block that is known whole; only one block has turned.
-/
import Derived.Test.YtcdikjomiomnpaaRows
import Derived.WalkKit
import Derived.WalkSpells
import Derived.WalkLawsBesides
import Derived.Below
import Derived.Laws.OwnMore
import Derived.Laws.Rows
import Derived.Deep.Draws
import Derived.Lib.Hide
namespace Go.Proofs.Ytcdikjomiomnpaa
open Go.RowKit

def Blk (w : World) (g : Nat) (t : TypeId) (cs : Array Value) : Prop := w.heap[g]? = some (.cells cs t (0, 0))

section
variable {w w' : World} {g : Nat} {t : TypeId} {cs : Array Value}
theorem Blk.lt (h : Blk w g t cs) : g < w.heap.size := by
  rcases Nat.lt_or_ge g w.heap.size with hlt | hge
  · exact hlt
  · unfold Blk at h; rw [Array.getElem?_eq_none hge] at h; cases h
theorem Blk.cell (h : Blk w g t cs) (i : Nat) : w.cell? ⟨g, i, none⟩ = cs[i]? := cell_of_row w g i cs t (0, 0) h
theorem Blk.frozen (h : Blk w g t cs) (i : Nat) : w.frozen? ⟨g, i, none⟩ = false := by
  unfold Blk at h
  simp [World.frozen?, h]
theorem Blk.new (w : World) (t : TypeId) (cs : Array Value) : Blk (w.alloc (.cells cs t)) w.heap.size t cs := heap_alloc_new w _
theorem Blk.drew (h : Blk w g t cs) : Blk w.drew g t cs := h
theorem Blk.drewN (h : Blk w g t cs) (n : Nat) : Blk (w.drewN n) g t cs := h
theorem Blk.alloc (h : Blk w g t cs) (o : Obj) : Blk (w.alloc o) g t cs := (Below.heap_alloc w o g h.lt).trans h
theorem Blk.set_ (h : Blk w g t cs) (i : Nat) (u : Value) : Blk (w.setCell ⟨g, i, none⟩ u) g t (cs.setIfInBounds i u) := by
  unfold Blk at h ⊢
  simp [World.setCell, Array.getElem?_modify, h]
theorem Blk.far (h : Blk w g t cs) {p : Addr} (hp : g ≠ p.block) (u : Value) : Blk (w.setCell p u) g t cs := (Below.heap_setCell w p u g hp).trans h
theorem Blk.below {B : Nat} (h : Blk w g t cs) (hb : Below B w w') (hg : g < B) : Blk w' g t cs := (hb.block g hg).trans h
theorem Blk.grown {row : Option Nat} (h : Blk w g t cs) (hb : w.grownBy w' row) (hg : some g ≠ row) : Blk w' g t cs := (hb.block g h.lt hg).trans h
end

theorem only_refl (w : World) (row : Option Nat) : w.grownBy w row := World.grownBy.refl w row
theorem only_drewN {a w : World} {row : Option Nat} (h : a.grownBy w row) (n : Nat) : a.grownBy (w.drewN n) row := ⟨h.os, h.tape, h.output, h.size, h.block⟩
theorem only_drew {a w : World} {row : Option Nat} (h : a.grownBy w row) : a.grownBy w.drew row := ⟨h.os, h.tape, h.output, h.size, h.block⟩
theorem only_alloc {a w : World} {row : Option Nat} (h : a.grownBy w row) (o : Obj) : a.grownBy (w.alloc o) row :=
  ⟨h.os, h.tape, h.output, Nat.le_trans h.size (by simp), fun i hi hne => (Below.heap_alloc w o i (Nat.lt_of_lt_of_le hi h.size)).trans (h.block i hi hne)⟩
theorem only_setCell {a w : World} {g : Nat} (h : a.grownBy w (some g)) {p : Addr} (hp : p.block = g ∨ a.heap.size ≤ p.block) (u : Value) : a.grownBy (w.setCell p u) (some g) :=
  ⟨h.os, h.tape, h.output, by simpa [World.setCell] using h.size, fun i hi hne => (Below.heap_setCell w p u i (by
    rintro rfl
    rcases hp with hp | hp
    · exact hne (by rw [hp])
    · omega)).trans (h.block i hi hne)⟩
theorem only_of_below {a w : World} (h : Below a.heap.size a w) (row : Option Nat) : a.grownBy w row := ⟨h.os, h.tape, h.output, h.size, fun i hi _ => h.block i hi⟩
theorem only_trans {a b c : World} {g : Nat} (h : a.grownBy b (some g)) (k : b.grownBy c (some g)) : a.grownBy c (some g) :=
  ⟨k.os.trans h.os, k.tape.trans h.tape, k.output.trans h.output, Nat.le_trans h.size k.size, fun i hi hne => (k.block i (Nat.lt_of_lt_of_le hi h.size) hne).trans (h.block i hi hne)⟩
theorem below_only {B : Nat} {a b c : World} {g : Nat} (h : Below B a b) (hB : B ≤ b.heap.size) (k : b.grownBy c (some g)) (hg : B ≤ g) : Below B a c :=
  h.grown k hB (fun _ e => by injection e with e; omega)

theorem Blk.set_eq {w : World} {g : Nat} {t : TypeId} {cs cs' : Array Value} (h : Blk w g t cs) (i : Nat) (u : Value) (e : cs.setIfInBounds i u = cs') : Blk (w.setCell ⟨g, i, none⟩ u) g t cs' := by
  subst e; exact h.set_ i u
theorem Blk.far_ {w : World} {g b i : Nat} {t : TypeId} {cs : Array Value} (hne : g ≠ b) (u : Value) (h : Blk w g t cs) : Blk (w.setCell ⟨b, i, none⟩ u) g t cs :=
  h.far (p := ⟨b, i, none⟩) hne u
theorem only_own {a w : World} {g i : Nat} (h : a.grownBy w (some g)) (u : Value) : a.grownBy (w.setCell ⟨g, i, none⟩ u) (some g) := only_setCell h (.inl rfl) u
theorem only_new {a w : World} {g i : Nat} (h : a.grownBy w (some g)) (u : Value) : a.grownBy (w.setCell ⟨a.heap.size, i, none⟩ u) (some g) := only_setCell h (.inr (Nat.le_refl _)) u

/-- A session's cells. -/
structure S where
  role : Int
  echo : Int
  answer : Int
  state : Int
  wait : Int
  quiet : Int
  tries : Int
/-- What is said. -/
structure Y where
  code : ByteArray
  answer : ByteArray
  lost : Bool

def S.cells (s : S) : Array Value := #[.int .i64 s.role, .int .i64 s.echo, .int .i64 s.answer, .int .i64 s.state, .int .i64 s.wait, .int .i64 s.quiet, .int .i64 s.tries]
def Y.val (y : Y) : Value := .agg #[.string y.code, .string y.answer, .bool y.lost]
def cNone : ByteArray := { data := #[] }
def c001 : ByteArray := { data := #[48, 48, 49] }
def c301 : ByteArray := { data := #[51, 48, 49] }
def c00 : ByteArray := { data := #[48, 48] }
def c12 : ByteArray := { data := #[49, 50] }
def quietY : Y := ⟨cNone, cNone, false⟩
def askY (c : ByteArray) : Y := ⟨c, cNone, false⟩
def goneY : Y := ⟨cNone, cNone, true⟩

def heardS (s : S) : S := { s with quiet := if s.state = 3 then 0 else s.quiet }
def upS (s : S) : S := if s.role = 1 then { s with state := 1 } else { s with state := 2, wait := 0 }
def upY (s : S) : Y := if s.role = 1 then quietY else askY c001
def downS (s : S) : S := { s with state := 0 }
def askedS (s : S) (c : List UInt8) : S :=
  if s.state = 0 then s else heardS { s with state := if c = [48, 48, 49] ∧ s.role = 1 then 3 else if c = [48, 48, 50] then 1 else s.state }
def askedA (s : S) (c : List UInt8) : ByteArray := if c = [48, 48, 49] ∧ s.role = 1 ∨ c = [48, 48, 50] ∨ c = [49, 48, 49] ∨ c = [51, 48, 49] then c00 else c12
def askedY (s : S) (c : ByteArray) : Y := if s.state = 0 then quietY else ⟨c, askedA s c.toList, false⟩
def answeredS (s : S) (c a : List UInt8) : S :=
  heardS { s with state := if s.state = 2 ∧ c = [48, 48, 49] ∧ a = [48, 48] ∨ s.state = 4 ∧ c = [51, 48, 49] then 3 else s.state }
def tickS (s : S) : S :=
  if s.state = 2 then { s with wait := if s.wait + 1 < s.answer then s.wait + 1 else 0 }
  else if s.state = 3 then
    if s.role = 1 ∨ s.echo = 0 then s
    else if s.quiet + 1 < s.echo then { s with quiet := s.quiet + 1 }
    else { s with quiet := s.quiet + 1, state := 4, tries := 1, wait := 0 }
  else if s.state = 4 then
    if s.wait + 1 < s.answer then { s with wait := s.wait + 1 }
    else if s.tries = 3 then { s with wait := 0, state := 0 }
    else { s with wait := 0, tries := s.tries + 1 }
  else s
def tickY (s : S) : Y :=
  if s.state = 2 then if s.wait + 1 < s.answer then quietY else askY c001
  else if s.state = 3 then
    if s.role = 1 ∨ s.echo = 0 then quietY
    else if s.quiet + 1 < s.echo then quietY
    else askY c301
  else if s.state = 4 then
    if s.wait + 1 < s.answer then quietY
    else if s.tries = 3 then goneY
    else askY c301
  else quietY

/-- A session method's answer: what is said, the session's block behind it, no other old block has turned. -/
def Tells (w : World) (b : Nat) (s : S) (y : Y) (e : Ending) (w' : World) : Prop :=
  e = .returned y.val ∧ Blk w' b 63 s.cells ∧ w.grownBy w' (some b)
/-- One that says nothing. -/
def Moves (w : World) (b : Nat) (s : S) (e : Ending) (w' : World) : Prop :=
  e = .returned (.tuple #[]) ∧ Blk w' b 63 s.cells ∧ w.grownBy w' (some b)
theorem Tells.of {w w' : World} {b : Nat} {s s' : S} {y y' : Y} {e : Ending} (h : Tells w b s y e w') (hs : s = s') (hy : y = y') : Tells w b s' y' e w' := by
  subst hs; subst hy; exact h
theorem Moves.of {w w' : World} {b : Nat} {s s' : S} {e : Ending} (h : Moves w b s e w') (hs : s = s') : Moves w b s' e w' := by
  subst hs; exact h
end Go.Proofs.Ytcdikjomiomnpaa
