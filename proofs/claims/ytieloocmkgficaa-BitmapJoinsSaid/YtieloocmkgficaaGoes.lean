/-
  Numbers, gone over: Numbers, the iterator's contract as the kit's laws want it, goes.
-/
import Derived.Test.YtieloocmkgficaaNums
import Derived.Test.YtieloocmkgficaaOfP
namespace Go.Proofs.Ytieloocmkgficaa
open Go.RowKit Go.Shelf
set_option linter.unusedVariables false
set_option linter.unusedSimpArgs false
attribute [local go_sem] Oper.semAt_some
/-- A field that a map has. -/
abbrev Fld (F S : B64) := { x : Int // hasB F S x = true }
def vals {F S : B64} (xs : List (Fld F S)) : List Int := xs.map (·.1)
theorem vals_snoc {F S : B64} (xs : List (Fld F S)) (x : Fld F S) : vals (xs ++ [x]) = vals xs ++ [x.1] := by simp [vals]
theorem vals_len {F S : B64} (xs : List (Fld F S)) : (vals xs).length = xs.length := by simp [vals]
def encN {F S : B64} (x : Fld F S) : Array Value := #[.int .i64 x.1]
theorem nums_stops (F S : B64) (n : Nat) (hn : 1 ≤ n) (Bn : Nat) (w : World) (hBl : Bn < w.heap.size)
    (c0 : w.cell? ⟨Bn, 0, none⟩ = some (.int .u64 (iv F))) (c1 : w.cell? ⟨Bn, 1, none⟩ = some (.int .u64 (iv S))) :
    SeqStopsK (α := Fld F S) Fence.wide n Try.prog 54 #[.pointer (some ⟨Bn, 0, none⟩)] encN (KB Bn) (fun xs => vals xs = nums F S) (fun pre => vals pre <+: nums F S) (nums F S).length w := by
  intro l J Jx W hW hJ hJx hY h0
  refine (nums1_in n hn l Bn F S (fun pre W => ∃ p : List (Fld F S), vals p = pre ∧ J p W) (fun pre W => ∃ p : List (Fld F S), vals p = pre ∧ Jx p W) W (Nat.lt_of_lt_of_le hBl hW.size) ?_ ?_
    ((hW.cell (p := ⟨Bn, 0, none⟩) hBl).trans c0) ((hW.cell (p := ⟨Bn, 1, none⟩) hBl).trans c1) ⟨[], rfl, h0⟩).mono ?_
  · intro s A B row hs hg hr
    obtain ⟨p, e, hp⟩ := hs
    exact ⟨p, e, hJ p A B row hp hg hr⟩
  · rintro pre x W1 hx ⟨p, rfl, hp⟩ hlen
    refine (hY p ⟨x, hx⟩ W1 hp (by rwa [vals_len] at hlen)).mono ?_
    rintro e W' (⟨he, hq, hk⟩ | ⟨he, hq⟩)
    · exact .inl ⟨he, ⟨p ++ [⟨x, hx⟩], vals_snoc _ _, hq⟩, hk⟩
    · exact .inr ⟨he, ⟨p ++ [⟨x, hx⟩], vals_snoc _ _, hq⟩⟩
  · rintro e W' ⟨hv, h⟩
    refine ⟨hv, ?_⟩
    rcases h with ⟨ys, rfl, p, e1, hp⟩ | ⟨pre, hpre, p, rfl, hp⟩
    · exact .inl ⟨p, e1, hp⟩
    · exact .inr ⟨p, hpre, hp⟩
theorem numbers_any (F S : B64) (w : World) : Calls Try.prog 32 #[.agg #[.int .u64 (iv F), .int .u64 (iv S)]] w fun e w' =>
    e = .returned (.func (.func 54) #[] #[.pointer (some ⟨w.heap.size, 0, none⟩)]) ∧ w' = w.alloc (.cells #[.int .u64 (iv F), .int .u64 (iv S)] 24) := by
  go_enter Try.func32, Try.ntmps32
  go_wp2
  go_ret
  first | exact ⟨rfl, rfl⟩ | trace_state
/-- Into the part of a list. -/
theorem prefix_at {pre l : List Int} (h : pre <+: l) (hl : pre.length < l.length) (x : Int) (hx : x = l.getD pre.length 0) : pre ++ [x] <+: l := by
  obtain ⟨t, rfl⟩ := h
  cases t with
  | nil => simp at hl
  | cons y ys => subst hx; exact ⟨ys, by simp⟩
theorem prefix_val {pre l : List Int} {x : Int} (h : pre ++ [x] <+: l) : pre.length < l.length ∧ x = l.getD pre.length 0 := by
  obtain ⟨t, rfl⟩ := h
  simp
theorem cellN (W : World) (v : Value) (t : TypeId) : (W.alloc (.cells #[v] t)).cell? ⟨W.heap.size, 0, none⟩ = some v ∧ (W.alloc (.cells #[v] t)).frozen? ⟨W.heap.size, 0, none⟩ = false := ⟨(Blk.new W t #[v]).cell 0, (Blk.new W t #[v]).frozen 0⟩
theorem cellA {W : World} {a : Addr} {v : Value} (o : Obj) (h : W.cell? a = some v) : (W.alloc o).cell? a = some v := cell_kept h (World.grownBy_alloc W o none) (fun r e => by cases e)
theorem frozA {W : World} {a : Addr} {v : Value} (o : Obj) (h : W.cell? a = some v) (hf : W.frozen? a = false) : (W.alloc o).frozen? a = false := (frozen_kept h (World.grownBy_alloc W o none) (fun r e => by cases e)).trans hf
theorem nums_le (F S : B64) : (nums F S).length ≤ 127 := by
  unfold nums numsTo
  exact Nat.le_trans (List.length_filter_le _ _) (by simp)
set_option maxRecDepth 100000 in
set_option maxHeartbeats 2000000 in
theorem goes_any (F S : B64) (Bn : Nat) (A : Option Addr) (N cap : Nat) (most : Int) (w : World) (hN : (nums F S).length = N) (hI : InL w A (nums F S)) (hBl : Bn < w.heap.size)
    (c0 : w.cell? ⟨Bn, 0, none⟩ = some (.int .u64 (iv F))) (c1 : w.cell? ⟨Bn, 1, none⟩ = some (.int .u64 (iv S))) :
    Calls Try.prog 40 #[.func (.func 54) #[] #[.pointer (some ⟨Bn, 0, none⟩)], .slice A N cap, .int .i64 most] w fun e W' => e = .returned (.bool true) ∧ Below w.heap.size w W' := by
  have hNb : N ≤ 127 := hN ▸ nums_le F S
  have h1 : 1 ≤ 5 := by omega
  refine callsIn_wide (n := 5) |>.1 (callsIn_of_wp_marks Try.func40 rfl trivial (wpIn_wide.2 ?_) rfl)
  simp only [Try.ntmps40, List.size_toArray, List.length_cons, List.length_nil, Nat.reduceAdd, Nat.reduceSub, Array.replicate_succ, Array.replicate_zero, List.push_toArray, List.append_toArray, List.nil_append, List.cons_append]
  go_wp2
  have d4 := cellN w (.slice A N cap) 35
  have d5 := cellN (w.alloc (.cells #[.slice A N cap] 35)) (.int .i64 most) 3
  have d6 := cellN ((w.alloc (.cells #[.slice A N cap] 35)).alloc (.cells #[.int .i64 most] 3)) (.bool false) 4
  have d7 := cellN (((w.alloc (.cells #[.slice A N cap] 35)).alloc (.cells #[.int .i64 most] 3)).alloc (.cells #[.bool false] 4)) (.int .i64 0) 3
  simp only [World.size_alloc] at d5 d6 d7
  have hB0 : Below w.heap.size w ((((w.alloc (.cells #[.slice A N cap] 35)).alloc (.cells #[.int .i64 most] 3)).alloc (.cells #[.bool false] 4)).alloc (.cells #[.int .i64 0] 3)) := ((((Below.refl _ w).alloc (Nat.le_refl _) _).alloc (by simp) _).alloc (by simp; omega) _).alloc (by simp; omega) _
  have e0 := (hB0.cell (p := ⟨Bn, 0, none⟩) hBl).trans c0
  have e1 := (hB0.cell (p := ⟨Bn, 1, none⟩) hBl).trans c1
  refine (wpIn_wide (n := 5)).1 (wpIn_rangeFunc_ownF (F := Fence.wide) rfl h1 (gf := 54) (lb := #[.pointer (some ⟨Bn, 0, none⟩)]) rfl trivial (enters_of Try.func54 (by kernel_rfl) rfl)
    (nums_stops F S 4 (by omega) Bn _ (by simp; omega) e0 e1) KB.trans (fun W l o o' hl ho hc hw => KB.put W l o o' ho (by simp at hl; omega)) (Below.refl _ _) (fun _ => rfl)
    (fun pre W => ((vals pre <+: nums F S) ∧ W.cell? ⟨w.heap.size, 0, none⟩ = some (.slice A N cap) ∧ W.cell? ⟨w.heap.size + 1, 0, none⟩ = some (.int .i64 most) ∧
      (W.cell? ⟨w.heap.size + 1 + 1, 0, none⟩ = some (.bool false) ∧ W.frozen? ⟨w.heap.size + 1 + 1, 0, none⟩ = false) ∧
      (W.cell? ⟨w.heap.size + 1 + 1 + 1, 0, none⟩ = some (.int .i64 (pre.length : Int)) ∧ W.frozen? ⟨w.heap.size + 1 + 1 + 1, 0, none⟩ = false)) ∧ Below w.heap.size w W)
    (fun c pre W => (c = .ret ∧ (W.cell? ⟨w.heap.size + 1 + 1, 0, none⟩ = some (.bool true) ∨ ¬ vals pre <+: nums F S)) ∧ Below w.heap.size w W)
    (OwnFrom.and (Own.from (fun s A B row hs hg hr => ⟨hs.1, cell_kept hs.2.1 hg hr, cell_kept hs.2.2.1 hg hr, ⟨cell_kept hs.2.2.2.1.1 hg hr, (frozen_kept hs.2.2.2.1.1 hg hr).trans hs.2.2.2.1.2⟩, ⟨cell_kept hs.2.2.2.2.1 hg hr, (frozen_kept hs.2.2.2.2.1 hg hr).trans hs.2.2.2.2.2⟩⟩) _) (ownFrom_below (Nat.le_refl _) (by simp; omega)))
    (fun c => OwnFrom.and (Own.from (fun s A B row hs hg hr => ⟨hs.1, hs.2.imp (fun h => cell_kept h hg hr) id⟩) _) (ownFrom_below (Nat.le_refl _) (by simp; omega)))
    ⟨⟨List.nil_prefix, cellA _ (cellA _ (cellA _ d4.1)), cellA _ (cellA _ d5.1), ⟨cellA _ d6.1, frozA _ d6.1 d6.2⟩, d7⟩, hB0⟩
    (fun x => { tmps := #[.func (.func 54) #[] #[.pointer (some ⟨Bn, 0, none⟩)], .slice A N cap, .int .i64 most, undef, .pointer (some ⟨w.heap.size, 0, none⟩), .pointer (some ⟨w.heap.size + 1, 0, none⟩), .pointer (some ⟨w.heap.size + 1 + 1, 0, none⟩), .pointer (some ⟨w.heap.size + 1 + 1 + 1, 0, none⟩), .int .i64 x.1, .func (.func 54) #[] #[.pointer (some ⟨Bn, 0, none⟩)], .int .i64 x.1, undef, undef, undef, undef, undef, undef, undef, undef, undef, undef, undef, undef, undef, undef, undef, undef, undef, undef, undef, undef, undef], defers := [] }) ?assign ?body ?done ?stop)
  case assign =>
    intro l x W K hK
    dsimp only [encN] at hK ⊢
    gi_wp2
    exact hK
  case body =>
    rintro l pre x W ⟨⟨hp, y4, y5, ⟨y6, f6⟩, y7, f7⟩, hB⟩ hlen
    clear d4 d5 d6 d7 hB0 e0 e1 c0 c1
    have hlN : pre.length < N := by rw [← hN]; exact hlen
    obtain ⟨b, off, rfl, hbs, hc⟩ := (hI.below hB) pre.length hlen
    obtain ⟨v, hv⟩ : ∃ v, (nums F S).getD pre.length 0 = v := ⟨_, rfl⟩
    rw [hv] at hc
    have g0 : decide (N ≤ pre.length) = false := decide_eq_false (by omega)
    have g0' : ¬ N ≤ pre.length := by omega
    have hw : IntKind.i64.wrap ((pre.length : Int) + 1) = (pre.length : Int) + 1 := IntWalk.i64_in _ (by omega)
    by_cases e : x.1 = v
    · have hpx : vals (pre ++ [x]) <+: nums F S := by
        rw [vals_snoc]
        exact prefix_at hp (by rw [vals_len]; exact hlen) _ (by rw [vals_len, hv, e])
      have e' : (x.1 != v) = false := by simp [e]
      have HP := Lib.hid hpx
      have HV := Lib.hid hv
      clear hpx hv hp hI hN
      clear e
      cases hm : ((pre.length : Int) + 1 == most)
      all_goals gi_wp2
      · refine ⟨KeepsOthers.setCell _ _ _, KB.set_ _ _ _ (by simp; omega), ⟨HP.out, ?_, ?_, ⟨?_, ?_⟩, ?_, ?_⟩, hB.setCell (p := ⟨w.heap.size + 1 + 1 + 1, 0, none⟩) (by simp; omega) _⟩
        · rw [World.cell?_setCell_far _ _ _ _ (by simp <;> omega)]; exact y4
        · rw [World.cell?_setCell_far _ _ _ _ (by simp <;> omega)]; exact y5
        · rw [World.cell?_setCell_far _ _ _ _ (by simp <;> omega)]; exact y6
        · rw [World.frozen?_setCell]; exact f6
        · rw [List.length_append]; exact World.cell?_setCell_same' _ _ _ (by rw [y7]; rfl)
        · rw [World.frozen?_setCell]; exact f7
      · refine ⟨(KeepsOthers.setCell _ _ _).trans (KeepsOthers.setCell _ _ _), ⟨rfl, .inl ?_⟩, (hB.setCell (p := ⟨w.heap.size + 1 + 1 + 1, 0, none⟩) (by simp; omega) _).setCell (p := ⟨w.heap.size + 1 + 1, 0, none⟩) (by simp; omega) _⟩
        refine World.cell?_setCell_same' _ _ _ ?_
        rw [World.cell?_setCell_far _ _ _ _ (by simp), y6]; rfl
    · have hnp : ¬ vals (pre ++ [x]) <+: nums F S := by
        intro h
        rw [vals_snoc] at h
        have := (prefix_val h).2
        rw [vals_len, hv] at this
        exact e this
      have e' : (x.1 != v) = true := by simp [e]
      have HP := Lib.hid hnp
      have HV := Lib.hid hv
      clear hnp hv hp hI hN
      gi_wp2
      exact ⟨KeepsOthers.setCell _ _ _, ⟨rfl, .inr HP.out⟩, hB.setCell (p := ⟨w.heap.size + 1 + 1, 0, none⟩) (by simp; omega) _⟩
  case done =>
    rintro D ys W hD hS ⟨⟨hp, y4, y5, ⟨y6, f6⟩, y7, f7⟩, hB⟩ hK
    clear d4 d5 d6 d7 hB0 e0 e1 c0 c1
    have hl : ys.length = N := by rw [← vals_len, hS, hN]
    rw [hl] at y7
    go_wp2
    have hK' := (KeepsOthers.setCell W ⟨w.heap.size + 1 + 1, 0, none⟩ (.bool true)).same D _ hK rfl
    refine ⟨by simp, .inl ⟨_, _, rfl, run_takeDeferred hK', ?_⟩⟩
    have hc5 := cell_kept (World.cell?_setCell_same' W ⟨w.heap.size + 1 + 1, 0, none⟩ (.bool true) (by rw [y6]; rfl)) (grownBy_putObj' _ D (.deferred none)) (fun r e => by cases e; exact ⟨_, hK', rfl⟩)
    refine ⟨.bool true, ?_, rfl, (hB.setCell (p := ⟨w.heap.size + 1 + 1, 0, none⟩) (by simp; omega) _).trans (belowK_b (w := w) (Nat.le_refl _) _ D _ _ (by simp at hD; omega) hK' rfl rfl)⟩
    simp [results, Try.f40, go_sem, hc5]
  case stop =>
    rintro D c pre W hD hpre ⟨⟨rfl, h⟩, hB⟩ hK
    rcases h with hc | h
    · gi_wp2
      refine ⟨by simp, .inl ⟨_, _, rfl, run_takeDeferred hK, ?_⟩⟩
      have hc5 := cell_kept hc (grownBy_putObj' _ D (.deferred none)) (fun r e => by cases e; exact ⟨_, hK, rfl⟩)
      refine ⟨.bool true, ?_, rfl, hB.trans (belowK_b (w := w) (Nat.le_refl _) W D _ _ (by simp at hD; omega) hK rfl rfl)⟩
      simp [results, Try.f40, go_sem, hc5]
    · exact absurd hpre h
end Go.Proofs.Ytieloocmkgficaa
