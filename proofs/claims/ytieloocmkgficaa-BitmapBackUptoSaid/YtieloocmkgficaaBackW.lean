/-
  BitmapBack: the walk.
-/
import Derived.Test.YtieloocmkgficaaBackC
import Derived.Test.YtieloocmkgficaaOfP
import Derived.Test.YtieloocmkgficaaWrit
namespace Go.Proofs.Ytieloocmkgficaa
open Go.RowKit Go.Shelf
set_option linter.unusedVariables false
set_option linter.unusedSimpArgs false
attribute [local go_sem] Oper.semAt_some
def lenP (k : Int) (b : Bool) : Int := if b then 2 * (if k = 5 then 8 else 16) else (if k = 5 then 8 else 16)
theorem length_any (k : Int) (b : Bool) (w : World) : Calls Try.prog 31 #[.int .i64 k, .bool b] w fun e w' => e = .returned (.int .i64 (lenP k b)) ∧ w = w' := by
  by_cases h : k = 5
  · subst h
    cases b
    all_goals
      go_enter Try.func31, Try.ntmps31
      go_wp2
      go_ret
      exact ⟨rfl, rfl⟩
  · have h' : (k == 5) = false := by simp [h]
    unfold lenP
    rw [if_neg h]
    cases b
    all_goals
      go_enter Try.func31, Try.ntmps31
      go_wp2
      go_ret
      exact ⟨rfl, rfl⟩
/-- Of, of a slice of one's own. -/
theorem of_own (B : Nat) (v : Value) (xs : List Int) (hl : xs.length ≤ 300) (w : World) (hw : w.ownsRow B 3 1 v xs.length (xs.map (Value.int .i64))) (F S : B64) (h : ofGo xs 0#64 0#64 = (F, S, 0)) :
    Calls Try.prog 21 #[v] w fun e w' => e = .returned (.tuple #[.agg #[.int .u64 (iv F), .int .u64 (iv S)], .int .i64 0]) ∧ Below w.heap.size w w' := by
  rcases hw with ⟨hx, ⟨rfl, h0⟩ | ⟨g, cap, cur, rfl, hb, hg, h1, h2, h3, h4⟩⟩
  · have : xs = [] := List.eq_nil_of_length_eq_zero h0
    subst this
    obtain ⟨rfl, rfl, -⟩ : 0#64 = F ∧ 0#64 = S ∧ True := by
      simp only [ofGo, Prod.mk.injEq] at h
      exact ⟨h.1, h.2.1, trivial⟩
    exact of_nil none 0 w
  · have hlt : g < w.heap.size := (Array.getElem?_eq_some_iff.1 hg).1
    have := of_some g 0 cap xs w (by omega) hlt (fun i hi => by
      have hc := cell_of_row w g (0 + i) cur 3 (0, 0) hg
      rw [hc]
      have e : (cur.toList.take (xs.length * 1))[i]? = (xs.map (Value.int .i64))[i]? := by rw [h4]
      rw [List.getElem?_take, if_pos (by omega), Array.getElem?_toList] at e
      rw [Nat.zero_add, e]
      simp [List.getElem?_eq_getElem hi])
    rw [h] at this
    exact this
theorem zero39 (w : World) : (zeroValue 39).run Try.prog w = .ok (.agg (rowA zeros)) w := by kernel_rfl
structure L1 (w wr : World) (g9 d0 : Nat) (xs : List Int) (v : Value) : Prop where
  res : Blk wr w.heap.size 4 #[.bool false]
  has : Blk wr g9 39 (rowA (memR xs))
  own : wr.ownsRow d0 3 1 v xs.length (xs.map (Value.int .i64))
  bel : Below w.heap.size w wr
  lo : w.heap.size < g9
  hi : g9 < d0
  sz : d0 ≤ wr.heap.size
theorem L1.grow {w wr w' : World} {g9 d0 : Nat} {xs : List Int} {v v' : Value} {x : Int} (h : L1 w wr g9 d0 xs v) (own : w'.ownsRow d0 3 1 v' (xs.length + 1) (xs.map (Value.int .i64) ++ [.int .i64 x]))
    (hg : (wr.alloc (.cells #[.int .i64 x] 3)).grownBy w' v.ownBlock) (h0 : 0 ≤ x) (h1 : x ≤ 128) : L1 w (w'.setCell ⟨g9, x.toNat, none⟩ (.bool true)) g9 d0 (xs ++ [x]) v' := by
  have hlo := h.lo
  have hhi := h.hi
  have hsz := h.sz
  have hw : w.heap.size ≠ g9 := by omega
  have k1 : some w.heap.size ≠ v.ownBlock := fun e => by have := (h.own.lt _ e.symm).1; omega
  have k2 : some g9 ≠ v.ownBlock := fun e => by have := (h.own.lt _ e.symm).1; omega
  have hs' := hg.size
  rw [World.size_alloc] at hs'
  refine ⟨((h.res.alloc _).grown hg k1).far_ hw _, ?_, ?_, ?_, hlo, hhi, by rw [World.size_setCell]; omega⟩
  · have q := ((h.has.alloc _).grown hg k2).set_ x.toNat (.bool true)
    rw [rowA_set, memR_set xs x h0 h1] at q
    exact q
  · rw [List.length_append, List.map_append]
    exact ownsRow_setCell_below own hhi _
  · have hb := ((h.bel.alloc (h.bel.size) (.cells #[.int .i64 x] 3)).grown hg (by rw [World.size_alloc]; have := h.bel.size; omega) (fun k e => by have := (h.own.lt _ e).1; omega))
    exact hb.setCell (p := ⟨g9, x.toNat, none⟩) (by simp; omega) _
structure L2 (w W : World) (g9 gm : Nat) (xs : List Int) (F S : B64) : Prop where
  res : Blk W w.heap.size 4 #[.bool false]
  has : Blk W g9 39 (rowA (memR xs))
  m : Blk W gm 24 #[.int .u64 (iv F), .int .u64 (iv S)]
  bel : Below w.heap.size w W
  lo : w.heap.size < g9
  mid : g9 < gm
theorem L2.next {w W W' : World} {g9 gm : Nat} {xs : List Int} {F S : B64} (h : L2 w W g9 gm xs F S) (hb : Below W.heap.size W W') : L2 w W' g9 gm xs F S :=
  ⟨h.res.below hb h.res.lt, h.has.below hb h.has.lt, h.m.below hb h.m.lt, h.bel.trans (hb.mono h.bel.size), h.lo, h.mid⟩
theorem L2.alloc {w W : World} {g9 gm : Nat} {xs : List Int} {F S : B64} (h : L2 w W g9 gm xs F S) (o : Obj) : L2 w (W.alloc o) g9 gm xs F S := h.next ((Below.refl _ _).alloc (Nat.le_refl _) _)
theorem L2.set_ {w W : World} {g9 gm g i : Nat} {xs : List Int} {F S : B64} (h : L2 w W g9 gm xs F S) (hg : gm < g) (u : Value) : L2 w (W.setCell ⟨g, i, none⟩ u) g9 gm xs F S := by
  have h1 := h.lo
  have h2 := h.mid
  exact ⟨h.res.far_ (by omega) _, h.has.far_ (by omega) _, h.m.far_ (by omega) _, h.bel.setCell (p := ⟨g, i, none⟩) (by simp; omega) _, h1, h2⟩
theorem L1.two {w W w2 : World} {g9 d0 : Nat} {xs : List Int} {v : Value} (h : L1 w W g9 d0 xs v) (hb : Below W.heap.size W w2) (F S : B64) : L2 w (w2.alloc (.cells #[.int .u64 (iv F), .int .u64 (iv S)] 24)) g9 w2.heap.size xs F S := by
  have h1 := h.hi
  have h2 := h.sz
  have h3 := hb.size
  exact ⟨(h.res.below hb h.res.lt).alloc _, (h.has.below hb h.has.lt).alloc _, Blk.new w2 24 _, (h.bel.trans (hb.mono h.bel.size)).alloc (by have := h.bel.size; omega) _, h.lo, by omega⟩
/-! How many fields lie below a number; the fields rise. -/
def cntTo (F S : B64) (n : Int) : Nat := (numsTo F S (min (n - 2).toNat 127)).length
theorem cnt_lo (F S : B64) (n : Int) (h : n ≤ 2) : cntTo F S n = 0 := by
  unfold cntTo
  rw [show min (n - 2).toNat 127 = 0 by omega]
  rfl
theorem cnt_hi (F S : B64) (n : Int) (h : 129 ≤ n) : cntTo F S n = (nums F S).length := by
  unfold cntTo
  rw [show min (n - 2).toNat 127 = 127 by omega]
  rfl
theorem cnt_succ (F S : B64) (n : Int) : (cntTo F S (n + 1) : Int) = (cntTo F S n : Int) + if hasB F S n = true then 1 else 0 := by
  by_cases h1 : n < 2
  · have : hasB F S n = false := by unfold hasB fldB; rw [decide_eq_false (by omega)]; rfl
    rw [cnt_lo _ _ _ (by omega), cnt_lo _ _ _ (by omega), this]; rfl
  · by_cases h2 : n ≤ 128
    · unfold cntTo
      rw [show min (n + 1 - 2).toNat 127 = (n - 2).toNat + 1 by omega, show min (n - 2).toNat 127 = (n - 2).toNat by omega, numsTo_succ, List.length_append]
      rw [show (((n - 2).toNat : Nat) : Int) + 2 = n by omega]
      split <;> simp
    · have : hasB F S n = false := by unfold hasB fldB; rw [decide_eq_false (show ¬ n ≤ 128 by omega)]; simp
      rw [cnt_hi _ _ _ (by omega), cnt_hi _ _ _ (by omega), this]; rfl
theorem cnt_le (F S : B64) (n : Int) : cntTo F S n ≤ 127 := by
  unfold cntTo numsTo
  refine Nat.le_trans (List.length_filter_le _ _) ?_
  simp; omega
theorem numsTo_lt (F S : B64) (k : Nat) : ∀ x, x ∈ numsTo F S k → 2 ≤ x ∧ x < (k : Int) + 2 := by
  intro x hx
  unfold numsTo at hx
  rw [List.mem_filter] at hx
  obtain ⟨i, hi, rfl⟩ := List.mem_map.1 hx.1
  rw [List.mem_range] at hi
  omega
theorem numsTo_up (F S : B64) : ∀ k, (numsTo F S k).Pairwise (· < ·)
  | 0 => List.Pairwise.nil
  | k + 1 => by
    rw [numsTo_succ, List.pairwise_append]
    refine ⟨numsTo_up F S k, by split <;> simp, ?_⟩
    intro x hx y hy
    have := (numsTo_lt F S k x hx).2
    split at hy
    · simp at hy; omega
    · cases hy
/-- What came last, 0 at the start. -/
def lastOf (xs : List Int) : Int := xs.getLast?.getD 0
theorem lastOf_snoc (xs : List Int) (x : Int) : lastOf (xs ++ [x]) = x := by simp [lastOf]
theorem last_lt {F S : B64} {pre : List Int} {x : Int} (h : pre ++ [x] <+: nums F S) : lastOf pre < x := by
  have hp : (pre ++ [x]).Pairwise (· < ·) := List.Pairwise.sublist h.sublist (numsTo_up F S 127)
  have hx2 : 2 ≤ x := (numsTo_lt F S 127 x (h.subset (by simp))).1
  rw [List.pairwise_append] at hp
  unfold lastOf
  cases hg : pre.getLast? with
  | none => simp; omega
  | some y => exact hp.2.2 y (List.mem_of_getLast? hg) x (by simp)
end Go.Proofs.Ytieloocmkgficaa
