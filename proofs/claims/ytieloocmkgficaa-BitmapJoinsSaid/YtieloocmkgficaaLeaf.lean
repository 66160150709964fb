/-
  The map's small functions, each by its contract: field, one, plain, Right, And, Less.
-/
import Derived.Test.YtieloocmkgficaaWords
import Derived.Laws.ResultCell
namespace Go.Proofs.Ytieloocmkgficaa
open Go.RowKit
set_option linter.unusedVariables false
set_option linter.unusedSimpArgs false
/-- A half as the model's integer. -/
def iv (X : B64) : Int := ((X.toNat : Nat) : Int)
theorem iv_rng (X : B64) : 0 ≤ iv X ∧ iv X < 18446744073709551616 := by unfold iv; have := X.isLt; omega
theorem iv_wrap (X : B64) : IntKind.u64.wrap ((X.toNat : Nat) : Int) = iv X := IntWalk.u64_in _ (by have := X.isLt; omega)
theorem bof (X : B64) : BitVec.ofInt IntKind.u64.bits ((X.toNat : Nat) : Int) = X := by
  show BitVec.ofInt 64 ((X.toNat : Nat) : Int) = X
  rw [BitVec.ofInt_natCast, BitVec.ofNat_toNat]; simp
theorem bits_and (X Y : B64) : bits .and .u64 (iv X) (iv Y) = iv (X &&& Y) := by
  unfold bits iv; simp only [bof]; exact iv_wrap (X &&& Y)
theorem bits_or (X Y : B64) : bits .or .u64 (iv X) (iv Y) = iv (X ||| Y) := by
  unfold bits iv; simp only [bof]; exact iv_wrap (X ||| Y)
theorem bits_andNot (X Y : B64) : bits .andNot .u64 (iv X) (iv Y) = iv (X &&& ~~~Y) := by
  unfold bits iv; simp only [bof]; exact iv_wrap (X &&& ~~~Y)
theorem top_int : (9223372036854775808 : Int) = iv topB := by decide
theorem bits_top (X : B64) : bits .andNot .u64 (iv X) 9223372036854775808 = iv (pl X) := by
  rw [top_int, bits_andNot]; rfl
theorem bits_top_and (X : B64) : bits .and .u64 (iv X) 9223372036854775808 = iv (X &&& topB) := by
  rw [top_int, bits_and]
theorem iv_eq0 (X : B64) : (iv X == 0) = (X == 0#64) := by
  rw [Bool.eq_iff_iff, beq_iff_eq, beq_iff_eq]
  constructor
  · intro h; unfold iv at h; exact BitVec.eq_of_toNat_eq (by simpa using h)
  · rintro rfl; rfl
theorem iv_inj {X Y : B64} (h : iv X = iv Y) : X = Y := BitVec.eq_of_toNat_eq (by unfold iv at h; omega)
theorem iv_beq (X Y : B64) : (iv X == iv Y) = (X == Y) := by
  rw [Bool.eq_iff_iff, beq_iff_eq, beq_iff_eq]
  exact ⟨iv_inj, fun h => by rw [h]⟩
theorem and_tw0 (X : B64) (k : Nat) : (X &&& BitVec.twoPow 64 k == 0#64) = !(X.getLsbD k) := by
  rw [BitVec.and_twoPow]
  cases h : X.getLsbD k
  · simp
  · have hk : k < 64 := by
      rcases Nat.lt_or_ge k 64 with h' | h'
      · exact h'
      · rw [BitVec.getLsbD_of_ge X k h'] at h; cases h
    simp only [if_true, Bool.not_true, beq_eq_false_iff_ne, ne_eq]
    intro e
    have := congrArg (fun Y : B64 => Y.getLsbD k) e
    simp [hk] at this
theorem shl_int (k : Nat) (hk : k < 64) : IntKind.u64.wrap ((2 : Int) ^ k) = iv (BitVec.twoPow 64 k) := by
  unfold iv
  rw [BitVec.toNat_twoPow, Nat.mod_eq_of_lt (Nat.pow_lt_pow_right (by omega) hk)]
  have h : (2 : Nat) ^ k ≤ 2 ^ 63 := Nat.pow_le_pow_right (by omega) (by omega)
  have e : ((2 ^ k : Nat) : Int) = (2 : Int) ^ k := by rw [Int.natCast_pow]; rfl
  rw [← e]
  generalize 2 ^ k = m at h
  exact IntWalk.u64_in _ (by omega)
theorem oF_lo {n : Int} (h1 : 2 ≤ n) (h2 : n ≤ 64) : IntKind.u64.wrap ((2 : Int) ^ (64 - n).toNat) = iv (oF n) ∧ iv (oS n) = 0 := by
  unfold oF oS
  rw [if_pos h2, if_pos h2]
  exact ⟨shl_int _ (by omega), rfl⟩
theorem oF_hi {n : Int} (h1 : 64 < n) (h2 : n ≤ 128) : iv (oF n) = 0 ∧ IntKind.u64.wrap ((2 : Int) ^ (128 - n).toNat) = iv (oS n) := by
  unfold oF oS
  rw [if_neg (by omega), if_neg (by omega)]
  exact ⟨rfl, shl_int _ (by omega)⟩
theorem info24 : (Try.prog.info? 24).map (·.size) = some 2 := by kernel_rfl
theorem ret_map {fn : Func} {p : Tmp} {a : Act} {w : World} {R : Ending → World → Prop} {g : Nat} {x y : Value} (h : fn.results = #[.cell p 24]) (hp : a.tmps.getD p undef = .pointer (some ⟨g, 0, none⟩))
    (hg : Blk w g 24 #[x, y]) (hd : a.defers = []) (hR : R (.returned (.agg #[x, y])) w) : bodyPost Try.prog fn R .ret a w :=
  bodyPost_ret (results_cell_row h _ w g 24 #[x, y] (0, 0) _ hp hg Try.underlying24 rfl info24) hd hR
theorem ret_map2 {fn : Func} {p q : Tmp} {a : Act} {w : World} {R : Ending → World → Prop} {g : Nat} {x y : Value} (h : fn.results = #[.cell p 24, .tmp q]) (hp : a.tmps.getD p undef = .pointer (some ⟨g, 0, none⟩))
    (hg : Blk w g 24 #[x, y]) (hd : a.defers = []) (hR : R (.returned (.tuple #[.agg #[x, y], a.tmps.getD q undef])) w) : bodyPost Try.prog fn R .ret a w := by
  refine bodyPost_ret (v := .tuple #[.agg #[x, y], a.tmps.getD q undef]) ?_ hd hR
  rw [results_cell_tmp h, hp]
  simp [asAddr, Result.andThen, run_loadVar_row w g 24 24 #[x, y] (0, 0) _ hg Try.underlying24 rfl info24]
theorem fld_bool (n : Int) (b : Bool) (h : b = fldB n) : Ending.returned (Value.bool b) = Ending.returned (Value.bool (fldB n)) := by rw [h]
set_option maxHeartbeats 400000 in
theorem field_any (n : Int) (w : World) : Calls Try.prog 42 #[.int .i64 n] w fun e w' => e = .returned (.bool (fldB n)) ∧ w = w' := by
  go_enter Try.func42, Try.ntmps42
  go_wp2
  · go_ret
    rename_i h1 h2
    exact ⟨fld_bool n _ (by simp [fldB, h1, h2]; rfl), rfl⟩
  · go_ret
    rename_i h1 h2
    exact ⟨fld_bool n _ (by simp [fldB, h1]; omega), rfl⟩
  · go_ret
    rename_i h1
    exact ⟨fld_bool n _ (by simp [fldB]; omega), rfl⟩
theorem one_any (n : Int) (w : World) (h1 : 2 ≤ n) (h2 : n ≤ 128) : Calls Try.prog 43 #[.int .i64 n] w fun e w' => e = .returned (.agg #[.int .u64 (iv (oF n)), .int .u64 (iv (oS n))]) ∧ Below w.heap.size w w' := by
  go_enter Try.func43, Try.ntmps43
  go_wp2
  · rename_i h
    obtain ⟨e1, e2⟩ := oF_lo h1 h
    rw [e1]
    refine ret_map rfl rfl (Blk.new _ _ _) rfl ⟨by rw [e2], (Below.refl _ _).alloc (Nat.le_refl _) _⟩
  · rename_i h
    obtain ⟨e1, e2⟩ := oF_hi h h2
    rw [e2]
    refine ret_map rfl rfl (Blk.new _ _ _) rfl ⟨by rw [e1], (Below.refl _ _).alloc (Nat.le_refl _) _⟩
theorem below2 (w : World) (a b : Obj) : Below w.heap.size w ((w.alloc a).alloc b) := ((Below.refl _ _).alloc (Nat.le_refl _) _).alloc (by simp) _
theorem below3 (w : World) (a b c : Obj) : Below w.heap.size w (((w.alloc a).alloc b).alloc c) := (below2 w a b).alloc (by simp; omega) _
theorem Blk.store2 {w : World} {g : Nat} {t : TypeId} {x0 x1 : Value} (h : Blk w g t #[x0, x1]) (a b : Value) :
    Blk ((w.setCell ⟨g, 0, none⟩ a).setCell ⟨g, 1, none⟩ b) g t #[a, b] := ((h.set_ 0 a).set_ 1 b)
theorem below_store2 {B : Nat} {a w : World} {g : Nat} (h : Below B a w) (hg : B ≤ g) (u0 u1 : Value) :
    Below B a ((w.setCell ⟨g, 0, none⟩ u0).setCell ⟨g, 1, none⟩ u1) :=
  (h.setCell (p := ⟨g, 0, none⟩) hg _).setCell (p := ⟨g, 1, none⟩) hg _
theorem Blk.new3 (w : World) (a b : Obj) (t : TypeId) (cs : Array Value) : Blk (((w.alloc a).alloc b).alloc (.cells cs t)) (w.heap.size + 2) t cs := by
  have h := Blk.new ((w.alloc a).alloc b) t cs
  simpa using h
theorem Blk.new2 (w : World) (a : Obj) (t : TypeId) (cs : Array Value) : Blk ((w.alloc a).alloc (.cells cs t)) (w.heap.size + 1) t cs := by
  have h := Blk.new (w.alloc a) t cs
  simpa using h
theorem plain_any (F S : B64) (w : World) : Calls Try.prog 41 #[.agg #[.int .u64 (iv F), .int .u64 (iv S)]] w fun e w' => e = .returned (.agg #[.int .u64 (iv (pl F)), .int .u64 (iv (pl S))]) ∧ Below w.heap.size w w' := by
  have B1 := bits_top F
  have B2 := bits_top S
  go_enter Try.func41, Try.ntmps41
  go_wp2
  exact ret_map rfl rfl (Blk.new2 _ _ _ _) rfl ⟨rfl, below2 _ _ _⟩
theorem right_any (F S : B64) (w : World) : Calls Try.prog 19 #[.agg #[.int .u64 (iv F), .int .u64 (iv S)]] w fun e w' => e = .returned (.bool (rightB F S)) ∧ Below w.heap.size w w' := by
  have B1 := bits_or F S
  have B2 := bits_top_and (F ||| S)
  have B3 : (iv ((F ||| S) &&& topB) == 0) = rightB F S := by
    rw [iv_eq0]; unfold topB; rw [and_tw0]; unfold rightB; rw [BitVec.getLsbD_or]
  go_enter Try.func19, Try.ntmps19
  go_wp2
  go_ret
  exact ⟨rfl, (Below.refl _ _).alloc (Nat.le_refl _) _⟩
theorem and_any (F S F' S' : B64) (w : World) : Calls Try.prog 12 #[.agg #[.int .u64 (iv F), .int .u64 (iv S)], .agg #[.int .u64 (iv F'), .int .u64 (iv S')]] w fun e w' => e = .returned (.agg #[.int .u64 (iv (pl (F &&& F'))), .int .u64 (iv (pl (S &&& S')))]) ∧ Below w.heap.size w w' := by
  have B1 := bits_and F F'
  have B2 := bits_and S S'
  go_enter Try.func12, Try.ntmps12
  go_wp2_with (go_at_call 41; refine (plain_any _ _ _).mono ?_; rintro e w' ⟨rfl, hb⟩; have hX := (Blk.new3 w _ _ 24 #[.int .u64 0, .int .u64 0]).below hb (by simp); have x0 := hX.cell 0; have x1 := hX.cell 1; have f0 := hX.frozen 0; have f1 := hX.frozen 1; have hY := Lib.hid hX; simp at x0 x1; clear hX)
  exact ret_map rfl rfl (hY.out.store2 _ _) rfl ⟨rfl, below_store2 ((below3 w _ _ _).trans (hb.mono (by simp; omega))) (by omega) _ _⟩
theorem less_any (F S F' S' : B64) (w : World) : Calls Try.prog 13 #[.agg #[.int .u64 (iv F), .int .u64 (iv S)], .agg #[.int .u64 (iv F'), .int .u64 (iv S')]] w fun e w' => e = .returned (.agg #[.int .u64 (iv (pl (F &&& ~~~F'))), .int .u64 (iv (pl (S &&& ~~~S')))]) ∧ Below w.heap.size w w' := by
  have B1 := bits_andNot F F'
  have B2 := bits_andNot S S'
  go_enter Try.func13, Try.ntmps13
  go_wp2_with (go_at_call 41; refine (plain_any _ _ _).mono ?_; rintro e w' ⟨rfl, hb⟩; have hX := (Blk.new3 w _ _ 24 #[.int .u64 0, .int .u64 0]).below hb (by simp); have x0 := hX.cell 0; have x1 := hX.cell 1; have f0 := hX.frozen 0; have f1 := hX.frozen 1; have hY := Lib.hid hX; simp at x0 x1; clear hX)
  exact ret_map rfl rfl (hY.out.store2 _ _) rfl ⟨rfl, below_store2 ((below3 w _ _ _).trans (hb.mono (by simp; omega))) (by omega) _ _⟩
end Go.Proofs.Ytieloocmkgficaa
