/-
  The chapter's examples.
-/
import Derived.Test.YtpipcklnicmpfaaFeedK
import Derived.Test.YtpipcklnicmpfaaWrap
import Derived.Lib.SlBytesConst
namespace Go.Proofs.Ytpipcklnicmpfaa
open Go.RowKit
set_option linter.unusedVariables false
set_option linter.unusedSimpArgs false
theorem own_below {w w' : World} {B e s n : Nat} {v : Value} {xs : List Value} (h : w.ownsRow B e s v n xs) (hb : Below w.heap.size w w') : w'.ownsRow B e s v n xs :=
  h.kept (only_of_below hb none) (by cases v.ownBlock <;> simp)
theorem Strm.below {B : Nat} {w w' : World} {g : Nat} {v : Value} {h m : Int} {s : St} (hs : Strm B w g v h m s) (hb : Below w.heap.size w w') : Strm B w' g v h m s :=
  ⟨hs.1.below hb hs.1.lt, own_below hs.2.1 hb, hs.2.2.1, hs.2.2.2⟩
theorem below_alloc (w : World) (o : Obj) : Below w.heap.size w (w.alloc o) := (Below.refl _ _).alloc (Nat.le_refl _) _
theorem reads_blk {w : World} {k : Nat} {t : TypeId} {fr : Nat × Nat} {cs : Array Value} {l : Bys} (hb : w.heap[k]? = some (.cells cs t fr)) (hc : cs.toList = bcells l) {n : Nat} (hn : l.length = n) : Reads w w.heap.size 1 (some ⟨k, 0, none⟩) n (bcells l) :=
  ⟨by rw [bcells_len, Nat.mul_one, hn], fun _ => ⟨_, rfl, (Array.getElem?_eq_some_iff.1 hb).1, fun j u hu => by
    rw [Addr.add_lit, Nat.zero_add, cell_of_row w k j cs t fr hb, ← Array.getElem?_toList, hc]; exact hu⟩⟩
/-- A Stream and what is told of the frame, behind a Feed. -/
theorem Fin_.facts {w w' : World} {g B : Nat} {r : Option Nat} {h m : Int} {ms : List Bys} {e : Int} {s : St} {out v : Value} (hf : Fin_ w w' g B r h m ms e s out v) (hB : B ≤ w.heap.size) (hr : ∀ j, r = some j → B ≤ j) : Below B w w' :=
  hf.fr.below hB hf.strm.2.2.2 hr
def exA : Bys := [0, 3, 97, 98, 99, 0]
def exB : Bys := [0, 0, 2, 120]
theorem ex_cutA : cut 1 10 exA = ⟨[[97, 98, 99]], 0, [0], 0⟩ := by kernel_rfl
theorem ex_cutB : cut 1 10 ([0] ++ exB) = ⟨[], 1, [0, 2, 120], 0⟩ := by kernel_rfl
theorem ex_feedA : feedE 1 10 (fresh 0) exA = 0 ∧ feedM 1 10 (fresh 0) exA = [[97, 98, 99]] ∧ feedS 1 10 (fresh 0) exA = ⟨[0], 0, 0⟩ := by
  unfold feedE feedM feedS fresh
  simp only [if_true, List.nil_append, ex_cutA]
  exact ⟨trivial, trivial, trivial⟩
theorem ex_feedB : feedE 1 10 ⟨[0], 0, 0⟩ exB = 0 ∧ feedM 1 10 ⟨[0], 0, 0⟩ exB = [] ∧ feedS 1 10 ⟨[0], 0, 0⟩ exB = ⟨[0, 2, 120], 0, 1⟩ := by
  unfold feedE feedM feedS
  simp only [if_true, ex_cutB]
  exact ⟨trivial, trivial, trivial⟩
def exW : ByteArray := ⟨#[97, 98, 99, 100, 101, 102, 103, 104, 105, 106, 107, 108]⟩
theorem ex_wrap : wrapW 3 100 exW = .tuple #[.string ⟨#[0, 18, 97, 98, 99, 100, 101, 102, 103, 104, 105, 106, 107, 108]⟩, .int .i64 0] := by kernel_rfl
set_option maxRecDepth 100000 in
set_option maxHeartbeats 2000000 in
theorem examples_ok (w : World) : Calls Try.prog 8 #[] w fun e w' => e = .returned (.bool true) ∧ Below w.heap.size w w' := by
  have e0 : mayB 1 10 = true := by kernel_rfl
  have QN : Hid (∀ w, Calls Try.prog 12 #[.int .i64 1, .int .i64 10] w fun v w' => v = .returned (.tuple #[.pointer (some ⟨w.heap.size, 0, none⟩), .int .i64 0]) ∧ w' = w.alloc (.cells #[.int .i64 1, .int .i64 10, .slice none 0 0, .int .i64 0, .int .i64 0] 70)) := Lib.hid fun w => new_right 1 10 w e0
  have QW : Hid (∀ w, Calls Try.prog 9 #[.int .i64 3, .int .i64 100, .string ⟨#[97, 98, 99, 100, 101, 102, 103, 104, 105, 106, 107, 108]⟩] w fun v w' => v = .returned (.tuple #[.string ⟨#[0, 18, 97, 98, 99, 100, 101, 102, 103, 104, 105, 106, 107, 108]⟩, .int .i64 0]) ∧ Below w.heap.size w w') := Lib.hid fun w => by
    have := wrap_any 3 100 exW (by decide) w
    rw [ex_wrap] at this
    exact this
  clear e0
  have S0 := Lib.hid ((strm_new w.heap.size w 1 10 (Nat.le_refl _)).below (below_alloc _ (.cells (bcells exA).toArray 5 (6, 7))))
  have R0 := Lib.hid (reads_blk (l := exA) (heap_alloc_new (w.alloc (.cells #[.int .i64 1, .int .i64 10, .slice none 0 0, .int .i64 0, .int .i64 0] 70)) (.cells (bcells exA).toArray 5 (6, 7))) (by simp) (n := 6) rfl)
  simp only [World.size_alloc] at R0
  have kc := fun (w : World) (C : Array Value) (n c : Nat) => Lib.run_convert_bytes_const (P := Try.prog) w 60 5 C n c Try.underlying60 Try.underlying5
  have KC := Lib.hid kc
  have kc1 := kc (w.alloc (.cells #[.int .i64 1, .int .i64 10, .slice none 0 0, .int .i64 0, .int .i64 0] 70)) #[.int .u8 0, .int .u8 3, .int .u8 97, .int .u8 98, .int .u8 99, .int .u8 0] 6 6
  simp only [World.size_alloc] at kc1
  clear kc
  go_enter Try.func8, Try.ntmps8
  go_wp2_with (first
    | (go_at_call 12; refine (QN.out _).mono ?_; rintro v w1 ⟨rfl, rfl⟩)
    | (go_at_call 26; refine (feed_good S0.out rfl (by decide) (by decide) (by decide) (by decide) (some ⟨w.heap.size + 1, 0, none⟩) 6 6 exA rfl (by simpa using R0.out) (by decide) (by decide)).mono ?_; rintro v w2 ⟨o2, v2, rfl, hf⟩; rw [ex_feedA.1, ex_feedA.2.1, ex_feedA.2.2] at hf; rw [ex_feedA.1]; clear S0 kc1; have HF2 := Lib.hid hf; have kc2 := KC.out w2 #[.int .u8 0, .int .u8 0, .int .u8 2, .int .u8 120] 4 4; obtain ⟨k2, c2, rfl, hk2a, hk2b⟩ := hf.own.form (by decide); have y2 := hf.own.cells (g := k2) rfl 0 (.string (bstr [97, 98, 99])) rfl; rw [Addr.add_lit] at y2; have Y2 := Lib.hid y2; clear hf y2; have T2 := Lib.hid True.intro)
    | (go_at_call 16; refine (waits_any HF2.out.strm).mono ?_; rintro v w' ⟨rfl, rfl⟩; have S2 := Lib.hid (HF2.out.strm.below (below_alloc w2 (.cells (bcells exB).toArray 5 (4, 5)))); have R2 := Lib.hid (reads_blk (l := exB) (heap_alloc_new w2 (.cells (bcells exB).toArray 5 (4, 5))) (by simp) (n := 4) rfl); clear T2)
    | (go_at_call 26; refine (feed_good S2.out rfl (by decide) (by decide) (by decide) (by decide) (some ⟨w2.heap.size, 0, none⟩) 4 4 exB rfl R2.out (by decide) (by decide)).mono ?_; rintro v w3 ⟨o3, v3, rfl, hf⟩; rw [ex_feedB.1, ex_feedB.2.1, ex_feedB.2.2] at hf; rw [ex_feedB.1]; clear kc2; have HF3 := Lib.hid hf; obtain ⟨A3, c3, rfl⟩ := own_form hf.own; clear hf)
    | (go_at_call 16; refine (waits_any HF3.out.strm).mono ?_; rintro v w' ⟨rfl, rfl⟩)
    | (go_at_call 9; refine (QW.out _).mono ?_; rintro v w4 ⟨rfl, hb4⟩; have S4 := Lib.hid (HF3.out.strm.below hb4); have HB4 := Lib.hid hb4; have q1 := own_below HF2.out.own (below_alloc w2 (.cells (bcells exB).toArray 5 (4, 5))); have q2 := HF3.out.fr.row q1 (own_ge HF2.out.own (by simp; omega)) (own_apart q1 S2.out.2.1 (by decide)); have y4 := (own_below q2 hb4).cells (g := k2) rfl 0 (.string (bstr [97, 98, 99])) rfl; rw [Addr.add_lit] at y4; replace y4 : w4.cell? ⟨k2, 0, none⟩ = some (.string ⟨#[97, 98, 99]⟩) := y4; clear q1 q2 hb4)
    | (go_at_call 17; refine (idle_any S4.out).mono ?_; rintro v w' ⟨rfl, rfl⟩))
  go_ret
  refine ⟨rfl, ?_⟩
  have b1 : Below w.heap.size w ((w.alloc (.cells #[.int .i64 1, .int .i64 10, .slice none 0 0, .int .i64 0, .int .i64 0] 70)).alloc (.cells (bcells exA).toArray 5 (6, 7))) := (below_alloc w _).alloc (by simp) _
  have b2 := b1.trans (HF2.out.facts (by simp; omega) (by simp [Value.ownBlock]))
  have b3 := b2.alloc b2.size (.cells (bcells exB).toArray 5 (4, 5))
  have b4 := b3.trans (HF3.out.facts b3.size (fun j e => (HF2.out.strm.2.1.lt j e).1))
  exact b4.trans (HB4.out.mono b4.size)
end Go.Proofs.Ytpipcklnicmpfaa
