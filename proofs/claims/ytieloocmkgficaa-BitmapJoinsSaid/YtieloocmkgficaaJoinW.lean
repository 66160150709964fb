/-
  BitmapJoins: the walk.
-/
import Derived.Test.YtieloocmkgficaaJoinP
import Derived.Deep.RegionHeld3
import Derived.Deep.RegionHeld2
import Derived.Deep.Cut
import Derived.Laws.EntriesVeiled
namespace Go.Proofs.Ytieloocmkgficaa
open Go.RowKit Go.Shelf
set_option linter.unusedVariables false
set_option linter.unusedSimpArgs false
attribute [local go_sem] Oper.semAt_some
theorem range_arr {w : World} {g : Nat} {t : TypeId} {cs : List Value} (h : Blk w g t cs.toArray) : w.rangeAt g 0 cs := fun j v hj => by
  rw [h.cell]
  simpa using hj
theorem eql_nil (p : Option Addr) (W : World) : (binOp .eql 57 (.func (.func 54) #[] #[.pointer p]) .nilFunc).run Try.prog W = .ok (.bool false) W := by kernel_rfl
theorem blk_kept2 {A B : World} {row : Option Nat} {g : Nat} {t : TypeId} {cs : Array Value} (h : Blk A g t cs) (hg : A.grownBy B row) (hr : ∀ r, row = some r → ∃ o : Obj, A.heap[r]? = some o ∧ o.isCells = false) : Blk B g t cs :=
  h.grown hg (fun e => by
    obtain ⟨o, ho, hc⟩ := hr g e.symm
    rw [show A.heap[g]? = _ from h] at ho
    cases ho
    cases hc)
theorem keeps_below {W W' : World} (h : Below W.heap.size W W') : KeepsOthers W W' := ⟨h.size, fun k o hk _ => (h.block k (Array.getElem?_eq_some_iff.1 hk).1).trans hk⟩
/-- What the last region reads. -/
structure JM (w W : World) (g13 g17 D : Nat) (A : Option Addr) (N cap : Nat) (F S : B64) : Prop where
  m : Blk W w.heap.size 24 #[.int .u64 (iv F), .int .u64 (iv S)]
  s : Blk W g13 35 #[.slice A N cap]
  i : Blk W g17 3 #[.int .i64 (N : Int)]
  y : Blk W (g17 + 1) 4 #[.bool true]
  res : ∃ b : Bool, Blk W (w.heap.size + 1 + 1 + 1) 4 #[.bool b]
  bel : Below w.heap.size w W
  d : W.heap[D]? = some (.deferred (some []))
theorem JM.next {w W W' : World} {g13 g17 D : Nat} {A : Option Addr} {N cap : Nat} {F S : B64} (h : JM w W g13 g17 D A N cap F S) (hb : Below W.heap.size W W') : JM w W' g13 g17 D A N cap F S := by
  obtain ⟨b, hr⟩ := h.res
  exact ⟨h.m.below hb h.m.lt, h.s.below hb h.s.lt, h.i.below hb h.i.lt, h.y.below hb h.y.lt, ⟨b, hr.below hb hr.lt⟩, h.bel.trans (hb.mono h.bel.size), (hb.block D (Array.getElem?_eq_some_iff.1 h.d).1).trans h.d⟩
theorem JM.drew {w W : World} {g13 g17 D : Nat} {A : Option Addr} {N cap : Nat} {F S : B64} (h : JM w W g13 g17 D A N cap F S) : JM w W.drew g13 g17 D A N cap F S :=
  ⟨h.m, h.s, h.i, h.y, h.res, h.bel.drew, h.d⟩
theorem JM.store {w W : World} {g13 g17 D : Nat} {A : Option Addr} {N cap : Nat} {F S : B64} (h : JM w W g13 g17 D A N cap F S) (h1 : w.heap.size + 1 + 1 + 1 < g13) (h2 : g13 < g17) (h3 : g17 + 1 < D) (u : Bool) : JM w (W.setCell ⟨w.heap.size + 1 + 1 + 1, 0, none⟩ (.bool u)) g13 g17 D A N cap F S := by
  obtain ⟨b, hr⟩ := h.res
  exact ⟨h.m.far_ (by omega) _, h.s.far_ (by omega) _, h.i.far_ (by omega) _, h.y.far_ (by omega) _, ⟨u, hr.set_ 0 _⟩, h.bel.setCell (p := ⟨w.heap.size + 1 + 1 + 1, 0, none⟩) (by simp; omega) _, (Below.heap_setCell _ _ _ D (by simp; omega)).trans h.d⟩
structure JI (w W : World) (Bn ga gb : Nat) (F S F' S' : B64) (most : Int) (cs ds : List Value) : Prop where
  m : Blk W w.heap.size 24 #[.int .u64 (iv F), .int .u64 (iv S)]
  mo : Blk W (w.heap.size + 1) 24 #[.int .u64 (iv F'), .int .u64 (iv S')]
  mi : Blk W (w.heap.size + 1 + 1) 3 #[.int .i64 most]
  res : Blk W (w.heap.size + 1 + 1 + 1) 4 #[.bool false]
  box : Blk W Bn 24 #[.int .u64 (iv F), .int .u64 (iv S)]
  it : Blk W (Bn + 1) 57 #[.func (.func 54) #[] #[.pointer (some ⟨Bn, 0, none⟩)]]
  a : Blk W ga 40 cs.toArray
  b : Blk W gb 40 ds.toArray
  bel : Below w.heap.size w W
theorem JI.next {w W W' : World} {Bn ga gb : Nat} {F S F' S' : B64} {most : Int} {cs ds : List Value} (h : JI w W Bn ga gb F S F' S' most cs ds) (hb : Below W.heap.size W W') : JI w W' Bn ga gb F S F' S' most cs ds :=
  ⟨h.m.below hb h.m.lt, h.mo.below hb h.mo.lt, h.mi.below hb h.mi.lt, h.res.below hb h.res.lt, h.box.below hb h.box.lt, h.it.below hb h.it.lt, h.a.below hb h.a.lt, h.b.below hb h.b.lt, h.bel.trans (hb.mono h.bel.size)⟩
theorem JI.drew {w W : World} {Bn ga gb : Nat} {F S F' S' : B64} {most : Int} {cs ds : List Value} (h : JI w W Bn ga gb F S F' S' most cs ds) : JI w W.drew Bn ga gb F S F' S' most cs ds :=
  ⟨h.m, h.mo, h.mi, h.res, h.box, h.it, h.a, h.b, h.bel.drew⟩
theorem JI.alloc {w W : World} {Bn ga gb : Nat} {F S F' S' : B64} {most : Int} {cs ds : List Value} (h : JI w W Bn ga gb F S F' S' most cs ds) (o : Obj) : JI w (W.alloc o) Bn ga gb F S F' S' most cs ds := h.next ((Below.refl _ _).alloc (Nat.le_refl _) _)
/-- Before the rows are laid. -/
structure J0 (w W : World) (Bn : Nat) (F S F' S' : B64) (most : Int) : Prop where
  m : Blk W w.heap.size 24 #[.int .u64 (iv F), .int .u64 (iv S)]
  mo : Blk W (w.heap.size + 1) 24 #[.int .u64 (iv F'), .int .u64 (iv S')]
  mi : Blk W (w.heap.size + 1 + 1) 3 #[.int .i64 most]
  res : Blk W (w.heap.size + 1 + 1 + 1) 4 #[.bool false]
  box : Blk W Bn 24 #[.int .u64 (iv F), .int .u64 (iv S)]
  it : Blk W (Bn + 1) 57 #[.func (.func 54) #[] #[.pointer (some ⟨Bn, 0, none⟩)]]
  bel : Below w.heap.size w W
  bn : w.heap.size + 3 < Bn
theorem J0.next {w W W' : World} {Bn : Nat} {F S F' S' : B64} {most : Int} (h : J0 w W Bn F S F' S' most) (hb : Below W.heap.size W W') : J0 w W' Bn F S F' S' most :=
  ⟨h.m.below hb h.m.lt, h.mo.below hb h.mo.lt, h.mi.below hb h.mi.lt, h.res.below hb h.res.lt, h.box.below hb h.box.lt, h.it.below hb h.it.lt, h.bel.trans (hb.mono h.bel.size), h.bn⟩
theorem J0.alloc {w W : World} {Bn : Nat} {F S F' S' : B64} {most : Int} (h : J0 w W Bn F S F' S' most) (o : Obj) : J0 w (W.alloc o) Bn F S F' S' most := h.next ((Below.refl _ _).alloc (Nat.le_refl _) _)
theorem blk_row {W : World} {g : Nat} {r q : Array Value} (h : Blk W g 40 q) : Blk (W.setRow g r) g 40 r := by
  unfold Blk at h ⊢
  simp [World.setRow, Array.getElem?_modify, h]
theorem J0.row {w W : World} {Bn g : Nat} {F S F' S' : B64} {most : Int} {c : Array Value} (h : J0 w W Bn F S F' S' most) (hg : Bn + 1 < g) : J0 w (W.setRow g c) Bn F S F' S' most := by
  have hb := h.bn
  exact ⟨h.m.setRow_far (by omega), h.mo.setRow_far (by omega), h.mi.setRow_far (by omega), h.res.setRow_far (by omega), h.box.setRow_far (by omega), h.it.setRow_far (by omega), below_setRow h.bel (by omega), hb⟩
theorem J0.mk' {w w1 : World} {F S F' S' : B64} {most : Int} (hb : Below (w.heap.size + 4) ((((w.alloc (.cells #[.int .u64 (iv F), .int .u64 (iv S)] 24)).alloc (.cells #[.int .u64 (iv F'), .int .u64 (iv S')] 24)).alloc (.cells #[.int .i64 most] 3)).alloc (.cells #[.bool false] 4)) w1) (hs : w.heap.size + 4 ≤ w1.heap.size) :
    J0 w ((w1.alloc (.cells #[.int .u64 (iv F), .int .u64 (iv S)] 24)).alloc (.cells #[.func (.func 54) #[] #[.pointer (some ⟨w1.heap.size, 0, none⟩)]] 57)) w1.heap.size F S F' S' most := by
  refine ⟨((Blk.below (((Blk.new w 24 _).alloc _).alloc _ |>.alloc _) hb (by omega)).alloc _).alloc _, ((Blk.below ((Blk.new2 w _ 24 _).alloc _ |>.alloc _) hb (by omega)).alloc _).alloc _, ((Blk.below ((Blk.new3 w _ _ 3 _).alloc _) hb (by omega)).alloc _).alloc _, ((Blk.below (t := 4) (cs := #[.bool false]) ?_ hb (by omega)).alloc _).alloc _, (Blk.new w1 24 _).alloc _, Blk.new2 w1 _ 57 _, ?_, by omega⟩
  · have q := Blk.new (((w.alloc (.cells #[.int .u64 (iv F), .int .u64 (iv S)] 24)).alloc (.cells #[.int .u64 (iv F'), .int .u64 (iv S')] 24)).alloc (.cells #[.int .i64 most] 3)) 4 #[.bool false]
    simpa using q
  · exact (((((below3 w _ _ _).alloc (by simp; omega) _).trans (hb.mono (by omega))).alloc (by omega) _).alloc (by simp; omega) _)
theorem cell1 {W : World} {g : Nat} {t : TypeId} {v : Value} (h : Blk W g t #[v]) : W.cell? ⟨g, 0, none⟩ = some v := h.cell 0
theorem J0.two {w W : World} {Bn ga gb : Nat} {F S F' S' : B64} {most : Int} {cs ds : List Value} (h : J0 w W Bn F S F' S' most) (ha : Blk W ga 40 cs.toArray) (hb : Blk W gb 40 ds.toArray) : JI w W Bn ga gb F S F' S' most cs ds :=
  ⟨h.m, h.mo, h.mi, h.res, h.box, h.it, ha, hb, h.bel⟩
structure JK (w W : World) (Bn ga gb g13 : Nat) (A : Option Addr) (N cap : Nat) (F S F' S' : B64) (most : Int) (cs ds : List Value) : Prop where
  j : JI w W Bn ga gb F S F' S' most cs ds
  s : Blk W g13 35 #[.slice A N cap]
  l : InL W A (nums F S)
theorem JK.next {w W W' : World} {Bn ga gb g13 : Nat} {A : Option Addr} {N cap : Nat} {F S F' S' : B64} {most : Int} {cs ds : List Value} (h : JK w W Bn ga gb g13 A N cap F S F' S' most cs ds) (hb : Below W.heap.size W W') : JK w W' Bn ga gb g13 A N cap F S F' S' most cs ds :=
  ⟨h.j.next hb, h.s.below hb h.s.lt, h.l.below hb⟩
theorem JK.alloc {w W : World} {Bn ga gb g13 : Nat} {A : Option Addr} {N cap : Nat} {F S F' S' : B64} {most : Int} {cs ds : List Value} (h : JK w W Bn ga gb g13 A N cap F S F' S' most cs ds) (o : Obj) : JK w (W.alloc o) Bn ga gb g13 A N cap F S F' S' most cs ds := h.next ((Below.refl _ _).alloc (Nat.le_refl _) _)
theorem JI.three {w W w9 : World} {Bn ga gb : Nat} {A : Option Addr} {N cap : Nat} {F S F' S' : B64} {most : Int} {cs ds : List Value} (h : JI w W Bn ga gb F S F' S' most cs ds) (hb : Below W.heap.size W w9) (hl : InL w9 A (nums F S)) :
    JK w (w9.alloc (.cells #[.slice A N cap] 35)) Bn ga gb w9.heap.size A N cap F S F' S' most cs ds :=
  ⟨(h.next hb).alloc _, Blk.new _ _ _, hl.below ((Below.refl _ _).alloc (Nat.le_refl _) _)⟩
set_option maxRecDepth 100000 in
set_option maxHeartbeats 4000000 in
theorem join_run (F S F' S' G GS H HS : B64) (most : Int) (cs ds : List Value) (va vb : Value) (N : Nat) (hc : cs.length = 129) (hd : ds.length = 129)
    (oc : cs.toArray.all (·.oneCell') = true) (od : ds.toArray.all (·.oneCell') = true) (hN : (nums F S).length = N)
    (hm1 : -9223372036854775808 ≤ most) (hm2 : most ≤ 9223372036854775807)
    (QX : Hid (∀ w, Calls Try.prog 27 #[.agg #[.int .u64 (iv F), .int .u64 (iv S)]] w fun e w' => e = .returned (.agg cs.toArray) ∧ Below w.heap.size w w'))
    (QY : Hid (∀ w, Calls Try.prog 27 #[.agg #[.int .u64 (iv F'), .int .u64 (iv S')]] w fun e w' => e = .returned (.agg ds.toArray) ∧ Below w.heap.size w w'))
    (QA : Hid (∀ w, Calls Try.prog 12 #[.agg #[.int .u64 (iv F), .int .u64 (iv S)], .agg #[.int .u64 (iv F'), .int .u64 (iv S')]] w fun e w' => e = .returned (.agg #[.int .u64 (iv G), .int .u64 (iv GS)]) ∧ Below w.heap.size w w'))
    (QRA : Hid (∀ w, Calls Try.prog 37 #[.agg cs.toArray, .agg ds.toArray] w fun e w' => e = .returned va ∧ Below w.heap.size w w'))
    (QLA : Hid (∀ w, Calls Try.prog 24 #[.agg #[.int .u64 (iv G), .int .u64 (iv GS)], va] w fun e w' => e = .returned (.bool true) ∧ Below w.heap.size w w'))
    (QL : Hid (∀ w, Calls Try.prog 13 #[.agg #[.int .u64 (iv F), .int .u64 (iv S)], .agg #[.int .u64 (iv F'), .int .u64 (iv S')]] w fun e w' => e = .returned (.agg #[.int .u64 (iv H), .int .u64 (iv HS)]) ∧ Below w.heap.size w w'))
    (QRL : Hid (∀ w, Calls Try.prog 38 #[.agg cs.toArray, .agg ds.toArray] w fun e w' => e = .returned vb ∧ Below w.heap.size w w'))
    (QLL : Hid (∀ w, Calls Try.prog 24 #[.agg #[.int .u64 (iv H), .int .u64 (iv HS)], vb] w fun e w' => e = .returned (.bool true) ∧ Below w.heap.size w w'))
    (QN : Hid (∀ w, Calls Try.prog 39 #[.agg cs.toArray] w fun e w' => ∃ A cap, e = .returned (.slice A N cap) ∧ InL w' A (nums F S) ∧ Below w.heap.size w w'))
    (QK : Hid (∀ w, Calls Try.prog 18 #[.agg #[.int .u64 (iv F), .int .u64 (iv S)]] w fun e w' => e = .returned (.int .i64 (N : Int)) ∧ Below w.heap.size w w'))
    (w : World) : Calls Try.prog 10 #[.agg #[.int .u64 (iv F), .int .u64 (iv S)], .agg #[.int .u64 (iv F'), .int .u64 (iv S')], .int .i64 most] w fun e W' => e = .returned (.bool true) ∧ Below w.heap.size w W' := by
  have hz := zero40
  have hnf := eql_nil
  have HSc : Hid ((Try.prog.info? 40).map (·.size) = some cs.toArray.size) := by show _ = _; rw [info40, List.size_toArray, hc]
  have HSd : Hid ((Try.prog.info? 40).map (·.size) = some ds.toArray.size) := by show _ = _; rw [info40, List.size_toArray, hd]
  have HZc : Hid ((rowA zeros).size = cs.toArray.size) := by show _ = _; rw [rowA_size, List.size_toArray, hc]; exact zeros_len
  have HZd : Hid ((rowA zeros).size = ds.toArray.size) := by show _ = _; rw [rowA_size, List.size_toArray, hd]; exact zeros_len
  have HOc := Lib.hid oc
  have HOd := Lib.hid od
  have HN := Lib.hid hN
  have hNb : N ≤ 127 := hN ▸ nums_le F S
  have hics : (Try.prog.info? 40).map (·.size) = some cs.length := by rw [info40, hc]
  have hids : (Try.prog.info? 40).map (·.size) = some ds.length := by rw [info40, hd]
  have HIc := Lib.hid hics
  have HId := Lib.hid hids
  clear oc od hN hc hd hics hids
  refine callsIn_wide (n := 5) |>.1 (callsIn_of_wp_marks Try.func10 rfl trivial (wpIn_wide.2 ?_) rfl)
  simp only [Try.ntmps10, List.size_toArray, List.length_cons, List.length_nil, Nat.reduceAdd, Nat.reduceSub, Array.replicate_succ, Array.replicate_zero, List.push_toArray, List.append_toArray, List.nil_append, List.cons_append]
  go_upto_region 7 with (first
    | (go_at_call 11; refine (examples_ok _).mono ?_; rintro v w1 ⟨rfl, hb1⟩; have hb1' : Below (w.heap.size + 4) ((((w.alloc (.cells #[.int .u64 (iv F), .int .u64 (iv S)] 24)).alloc (.cells #[.int .u64 (iv F'), .int .u64 (iv S')] 24)).alloc (.cells #[.int .i64 most] 3)).alloc (.cells #[.bool false] 4)) w1 := by { simpa using hb1 }; have hs1 : w.heap.size + 4 ≤ w1.heap.size := by { simpa using hb1.size }; have H0 := Lib.hid (J0.mk' hb1' hs1); have hm0 := Blk.below (((Blk.new w 24 #[.int .u64 (iv F), .int .u64 (iv S)]).alloc (.cells #[.int .u64 (iv F'), .int .u64 (iv S')] 24)).alloc (.cells #[.int .i64 most] 3) |>.alloc (.cells #[.bool false] 4)) hb1' (by omega); have m0 := hm0.cell 0; have m1 := hm0.cell 1; simp at m0 m1; clear hb1 hb1' hm0)
    | (go_at_call 32; refine (numbers_any F S _).mono ?_; rintro v w2 ⟨rfl, rfl⟩; clear m0 m1; have m0 := H0.out.m.cell 0; have m1 := H0.out.m.cell 1; simp at m0 m1; have y8 := H0.out.it.cell 0; simp at y8)
    | (go_at_call 27; refine (QX.out _).mono ?_; rintro v w3 ⟨rfl, hb3⟩; have H3 := Lib.hid ((H0.out.next hb3).alloc (.cells (rowA zeros) 40)); have HA3 := Lib.hid (Blk.new w3 40 (rowA zeros)); have hs3 : w1.heap.size + 1 < w3.heap.size := Nat.lt_of_lt_of_le H0.out.it.lt hb3.size; clear hb3 QX m0 m1 y8)
    | (refine wpList_store_row rfl 40 (.tmp 9) (.tmp 30) rfl _ cs.toArray rfl rfl 40 (rowA zeros) HA3.out HSc.out HZc.out HOc.out ?_; have H4 := Lib.hid (J0.row (c := cs.toArray) H3.out hs3); have HA4 := Lib.hid (blk_row (r := cs.toArray) HA3.out); have n0 := H4.out.mo.cell 0; have n1 := H4.out.mo.cell 1; simp at n0 n1; clear HA3 H3)
    | (go_at_call 27; refine (QY.out _).mono ?_; rintro v w5 ⟨rfl, hb5⟩; have H5 := Lib.hid ((H4.out.next hb5).alloc (.cells (rowA zeros) 40)); have HA5 := Lib.hid ((HA4.out.below hb5 HA4.out.lt).alloc (.cells (rowA zeros) 40)); have HB5 := Lib.hid (Blk.new w5 40 (rowA zeros)); have hs5 : w3.heap.size < w5.heap.size := Nat.lt_of_lt_of_le HA4.out.lt hb5.size; clear hb5 QY n0 n1)
    | (refine wpList_store_row rfl 40 (.tmp 10) (.tmp 32) rfl _ ds.toArray rfl rfl 40 (rowA zeros) HB5.out HSd.out HZd.out HOd.out ?_; have H6 := Lib.hid (J0.row (c := ds.toArray) H5.out (show w1.heap.size + 1 < w5.heap.size by omega)); have HA6 := Lib.hid (HA5.out.setRow_far (b := w5.heap.size) (c := ds.toArray) (by omega)); have HB6 := Lib.hid (blk_row (r := ds.toArray) HB5.out); clear HA5 HB5 H5))
  have HJ := Lib.hid (J0.two H6.out HA6.out HB6.out)
  obtain ⟨Bn, hBn⟩ : ∃ Bn, w1.heap.size = Bn := ⟨_, rfl⟩
  obtain ⟨ga, hga⟩ : ∃ ga, w3.heap.size = ga := ⟨_, rfl⟩
  obtain ⟨gb, hgb⟩ : ∃ gb, w5.heap.size = gb := ⟨_, rfl⟩
  have hnn := H0.out.bn
  obtain ⟨W7, hW7⟩ : ∃ W7, (w5.alloc (.cells (rowA zeros) 40)).setRow w5.heap.size ds.toArray = W7 := ⟨_, rfl⟩
  have HWX := Lib.hid hW7
  rw [hW7] at HJ ⊢
  rw [hBn, hga, hgb] at HJ
  rw [hBn] at hnn ⊢
  rw [hga, hgb]
  rw [hBn, hga] at hs3
  rw [hga, hgb] at hs5
  clear hW7 H0 HA4 H4 H6 HA6 HB6 hz hnf hBn hga hgb
  have hund := Try.underlying40
  have hics := HIc.out
  have hids := HId.out
  go_upto_region 7 with fail
  refine wp_region_noPanic ?_
  refine wp_region_held_drew (S := (fun w' : World => JI w w' Bn ga gb F S F' S' most cs ds)) (by kernel_rfl) ?tr7_0 (fun hHeld => ?_)
  case tr7_0 => exact HJ.out.drew
  refine wpAnyH_take (i := 0) (oi := ?or7_0) (v := ?vr7_0) ?er7_0 ?kr7_0 ?lr7_0 ?mr7_0 ?pr7_0 (Or.inl ⟨?gr7_0, ?yr7_0⟩) (by assumption) ?_
  case er7_0 => (simp only [List.getElem?_toArray, List.getElem?_cons_succ, List.getElem?_cons_zero]; rfl)
  case kr7_0 => kernel_rfl
  case lr7_0 => kernel_rfl
  case mr7_0 => kernel_rfl
  case pr7_0 => exact fun _ _ _ h => h
  case gr7_0 => rfl
  case yr7_0 => (intro W hSw; (try dsimp only at hSw); have m0 := hSw.m.cell 0; have m1 := hSw.m.cell 1; simp at m0 m1; go_simp; try with_reducible rfl)
  try simp only [Act.put, List.setIfInBounds_toArray, List.set_cons_zero, List.set_cons_succ]
  refine wpAnyH_take (i := 1) (oi := ?or7_1) (v := ?vr7_1) ?er7_1 ?kr7_1 ?lr7_1 ?mr7_1 ?pr7_1 (Or.inl ⟨?gr7_1, ?yr7_1⟩) (by assumption) ?_
  case er7_1 => (simp only [List.getElem?_toArray, List.getElem?_cons_succ, List.getElem?_cons_zero]; rfl)
  case kr7_1 => kernel_rfl
  case lr7_1 => kernel_rfl
  case mr7_1 => kernel_rfl
  case pr7_1 => exact fun _ _ _ h => h
  case gr7_1 => rfl
  case yr7_1 => (intro W hSw; (try dsimp only at hSw); have m0 := hSw.mo.cell 0; have m1 := hSw.mo.cell 1; simp at m0 m1; go_simp; try with_reducible rfl)
  try simp only [Act.put, List.setIfInBounds_toArray, List.set_cons_zero, List.set_cons_succ]
  refine wpAnyH_take (i := 3) (oi := ?or7_3) (v := ?vr7_3) ?er7_3 ?kr7_3 ?lr7_3 ?mr7_3 ?pr7_3 ?yr7_3 (by assumption) ?_
  case er7_3 => (simp only [List.getElem?_toArray, List.getElem?_cons_succ, List.getElem?_cons_zero]; rfl)
  case kr7_3 => kernel_rfl
  case lr7_3 => kernel_rfl
  case mr7_3 => kernel_rfl
  case yr7_3 =>
    refine' yieldsIf_load_mid (by rfl) _ _ rfl _ _ rfl cs _ ?Sr7_3 ?ur7_3 ?dr7_3 ?ir7_3
    case Sr7_3 => (intro W hSw; (try dsimp only at hSw); exact range_arr hSw.a)
    case ur7_3 => exact hund
    case dr7_3 => rfl
    case ir7_3 => exact hics
  case pr7_3 => exact fun _ _ _ h => h
  try simp only [Act.put, List.setIfInBounds_toArray, List.set_cons_zero, List.set_cons_succ]
  refine wpAnyH_take (i := 4) (oi := ?or7_4) (v := ?vr7_4) ?er7_4 ?kr7_4 ?lr7_4 ?mr7_4 ?pr7_4 ?yr7_4 (by assumption) ?_
  case er7_4 => (simp only [List.getElem?_toArray, List.getElem?_cons_succ, List.getElem?_cons_zero]; rfl)
  case kr7_4 => kernel_rfl
  case lr7_4 => kernel_rfl
  case mr7_4 => kernel_rfl
  case yr7_4 =>
    refine' yieldsIf_load_mid (by rfl) _ _ rfl _ _ rfl ds _ ?Sr7_4 ?ur7_4 ?dr7_4 ?ir7_4
    case Sr7_4 => (intro W hSw; (try dsimp only at hSw); exact range_arr hSw.b)
    case ur7_4 => exact hund
    case dr7_4 => rfl
    case ir7_4 => exact hids
  case pr7_4 => exact fun _ _ _ h => h
  try simp only [Act.put, List.setIfInBounds_toArray, List.set_cons_zero, List.set_cons_succ]
  refine wpAnyH_ready (rs := [2]) (by kernel_rfl) (by simp) ?_
  refine AllReadyH.cons (o := ?or7_2) ?er7_2 ?fr7_2 ?mr7_2
  case er7_2 => (simp only [List.getElem?_toArray, List.getElem?_cons_succ, List.getElem?_cons_zero]; rfl)
  case mr7_2 => exact AllReadyH.nil
  intro K hK
  go_simp
  go_at_call 12
  refine (QA.out _).mono ?_
  rintro v w' ⟨rfl, hb⟩
  (try go_simp)
  refine hK.out _ _ ?sr7_2 (fun hHeld => ?_)
  case sr7_2 => exact JI.next (by assumption) hb
  clear hK K
  try simp only [Act.put, List.setIfInBounds_toArray, List.set_cons_zero, List.set_cons_succ]
  refine wpAnyH_ready (rs := [5]) (by kernel_rfl) (by simp) ?_
  refine AllReadyH.cons (o := ?or7_5) ?er7_5 ?fr7_5 ?mr7_5
  case er7_5 => (simp only [List.getElem?_toArray, List.getElem?_cons_succ, List.getElem?_cons_zero]; rfl)
  case mr7_5 => exact AllReadyH.nil
  intro K hK
  go_simp
  go_at_call 37
  refine (QRA.out _).mono ?_
  rintro v w' ⟨rfl, hb⟩
  (try go_simp)
  refine hK.out _ _ ?sr7_5 (fun hHeld => ?_)
  case sr7_5 => exact JI.next (by assumption) hb
  clear hK K
  try simp only [Act.put, List.setIfInBounds_toArray, List.set_cons_zero, List.set_cons_succ]
  refine wpAnyH_ready (rs := [6]) (by kernel_rfl) (by simp) ?_
  refine AllReadyH.cons (o := ?or7_6) ?er7_6 ?fr7_6 ?mr7_6
  case er7_6 => (simp only [List.getElem?_toArray, List.getElem?_cons_succ, List.getElem?_cons_zero]; rfl)
  case mr7_6 => exact AllReadyH.nil
  intro K hK
  go_simp
  go_at_call 24
  refine (QLA.out _).mono ?_
  rintro v w' ⟨rfl, hb⟩
  (try go_simp)
  refine hK.out _ _ ?sr7_6 (fun hHeld => ?_)
  case sr7_6 => exact JI.next (by assumption) hb
  clear hK K
  try simp only [Act.put, List.setIfInBounds_toArray, List.set_cons_zero, List.set_cons_succ]
  refine wpAnyH_take (i := 7) (oi := ?or7_7) (v := ?vr7_7) ?er7_7 ?kr7_7 ?lr7_7 ?mr7_7 ?pr7_7 (Or.inl ⟨?gr7_7, ?yr7_7⟩) (by assumption) ?_
  case er7_7 => (simp only [List.getElem?_toArray, List.getElem?_cons_succ, List.getElem?_cons_zero]; rfl)
  case kr7_7 => kernel_rfl
  case lr7_7 => kernel_rfl
  case mr7_7 => kernel_rfl
  case pr7_7 => exact fun _ _ _ h => h
  case gr7_7 => rfl
  case yr7_7 => (intro W hSw; (try dsimp only at hSw); go_simp; try with_reducible rfl)
  try simp only [Act.put, List.setIfInBounds_toArray, List.set_cons_zero, List.set_cons_succ]
  refine wpAnyH_done (by kernel_rfl) ?_ _
  refine NoPanic.normal ?_
  replace HJ := Lib.hid hHeld
  clear hHeld
  go_upto_region 8 with fail
  refine wp_region_noPanic ?_
  refine wp_region_held_drew (S := (fun w' : World => JI w w' Bn ga gb F S F' S' most cs ds)) (by kernel_rfl) ?tr8_0 (fun hHeld => ?_)
  case tr8_0 => exact HJ.out.drew
  refine wpAnyH_take (i := 0) (oi := ?or8_0) (v := ?vr8_0) ?er8_0 ?kr8_0 ?lr8_0 ?mr8_0 ?pr8_0 (Or.inl ⟨?gr8_0, ?yr8_0⟩) (by assumption) ?_
  case er8_0 => (simp only [List.getElem?_toArray, List.getElem?_cons_succ, List.getElem?_cons_zero]; rfl)
  case kr8_0 => kernel_rfl
  case lr8_0 => kernel_rfl
  case mr8_0 => kernel_rfl
  case pr8_0 => exact fun _ _ _ h => h
  case gr8_0 => rfl
  case yr8_0 => (intro W hSw; (try dsimp only at hSw); have m0 := hSw.m.cell 0; have m1 := hSw.m.cell 1; simp at m0 m1; go_simp; try with_reducible rfl)
  try simp only [Act.put, List.setIfInBounds_toArray, List.set_cons_zero, List.set_cons_succ]
  refine wpAnyH_take (i := 1) (oi := ?or8_1) (v := ?vr8_1) ?er8_1 ?kr8_1 ?lr8_1 ?mr8_1 ?pr8_1 (Or.inl ⟨?gr8_1, ?yr8_1⟩) (by assumption) ?_
  case er8_1 => (simp only [List.getElem?_toArray, List.getElem?_cons_succ, List.getElem?_cons_zero]; rfl)
  case kr8_1 => kernel_rfl
  case lr8_1 => kernel_rfl
  case mr8_1 => kernel_rfl
  case pr8_1 => exact fun _ _ _ h => h
  case gr8_1 => rfl
  case yr8_1 => (intro W hSw; (try dsimp only at hSw); have m0 := hSw.mo.cell 0; have m1 := hSw.mo.cell 1; simp at m0 m1; go_simp; try with_reducible rfl)
  try simp only [Act.put, List.setIfInBounds_toArray, List.set_cons_zero, List.set_cons_succ]
  refine wpAnyH_take (i := 3) (oi := ?or8_3) (v := ?vr8_3) ?er8_3 ?kr8_3 ?lr8_3 ?mr8_3 ?pr8_3 ?yr8_3 (by assumption) ?_
  case er8_3 => (simp only [List.getElem?_toArray, List.getElem?_cons_succ, List.getElem?_cons_zero]; rfl)
  case kr8_3 => kernel_rfl
  case lr8_3 => kernel_rfl
  case mr8_3 => kernel_rfl
  case yr8_3 =>
    refine' yieldsIf_load_mid (by rfl) _ _ rfl _ _ rfl cs _ ?Sr8_3 ?ur8_3 ?dr8_3 ?ir8_3
    case Sr8_3 => (intro W hSw; (try dsimp only at hSw); exact range_arr hSw.a)
    case ur8_3 => exact hund
    case dr8_3 => rfl
    case ir8_3 => exact hics
  case pr8_3 => exact fun _ _ _ h => h
  try simp only [Act.put, List.setIfInBounds_toArray, List.set_cons_zero, List.set_cons_succ]
  refine wpAnyH_take (i := 4) (oi := ?or8_4) (v := ?vr8_4) ?er8_4 ?kr8_4 ?lr8_4 ?mr8_4 ?pr8_4 ?yr8_4 (by assumption) ?_
  case er8_4 => (simp only [List.getElem?_toArray, List.getElem?_cons_succ, List.getElem?_cons_zero]; rfl)
  case kr8_4 => kernel_rfl
  case lr8_4 => kernel_rfl
  case mr8_4 => kernel_rfl
  case yr8_4 =>
    refine' yieldsIf_load_mid (by rfl) _ _ rfl _ _ rfl ds _ ?Sr8_4 ?ur8_4 ?dr8_4 ?ir8_4
    case Sr8_4 => (intro W hSw; (try dsimp only at hSw); exact range_arr hSw.b)
    case ur8_4 => exact hund
    case dr8_4 => rfl
    case ir8_4 => exact hids
  case pr8_4 => exact fun _ _ _ h => h
  try simp only [Act.put, List.setIfInBounds_toArray, List.set_cons_zero, List.set_cons_succ]
  refine wpAnyH_ready (rs := [2]) (by kernel_rfl) (by simp) ?_
  refine AllReadyH.cons (o := ?or8_2) ?er8_2 ?fr8_2 ?mr8_2
  case er8_2 => (simp only [List.getElem?_toArray, List.getElem?_cons_succ, List.getElem?_cons_zero]; rfl)
  case mr8_2 => exact AllReadyH.nil
  intro K hK
  go_simp
  go_at_call 13
  refine (QL.out _).mono ?_
  rintro v w' ⟨rfl, hb⟩
  (try go_simp)
  refine hK.out _ _ ?sr8_2 (fun hHeld => ?_)
  case sr8_2 => exact JI.next (by assumption) hb
  clear hK K
  try simp only [Act.put, List.setIfInBounds_toArray, List.set_cons_zero, List.set_cons_succ]
  refine wpAnyH_ready (rs := [5]) (by kernel_rfl) (by simp) ?_
  refine AllReadyH.cons (o := ?or8_5) ?er8_5 ?fr8_5 ?mr8_5
  case er8_5 => (simp only [List.getElem?_toArray, List.getElem?_cons_succ, List.getElem?_cons_zero]; rfl)
  case mr8_5 => exact AllReadyH.nil
  intro K hK
  go_simp
  go_at_call 38
  refine (QRL.out _).mono ?_
  rintro v w' ⟨rfl, hb⟩
  (try go_simp)
  refine hK.out _ _ ?sr8_5 (fun hHeld => ?_)
  case sr8_5 => exact JI.next (by assumption) hb
  clear hK K
  try simp only [Act.put, List.setIfInBounds_toArray, List.set_cons_zero, List.set_cons_succ]
  refine wpAnyH_ready (rs := [6]) (by kernel_rfl) (by simp) ?_
  refine AllReadyH.cons (o := ?or8_6) ?er8_6 ?fr8_6 ?mr8_6
  case er8_6 => (simp only [List.getElem?_toArray, List.getElem?_cons_succ, List.getElem?_cons_zero]; rfl)
  case mr8_6 => exact AllReadyH.nil
  intro K hK
  go_simp
  go_at_call 24
  refine (QLL.out _).mono ?_
  rintro v w' ⟨rfl, hb⟩
  (try go_simp)
  refine hK.out _ _ ?sr8_6 (fun hHeld => ?_)
  case sr8_6 => exact JI.next (by assumption) hb
  clear hK K
  try simp only [Act.put, List.setIfInBounds_toArray, List.set_cons_zero, List.set_cons_succ]
  refine wpAnyH_take (i := 7) (oi := ?or8_7) (v := ?vr8_7) ?er8_7 ?kr8_7 ?lr8_7 ?mr8_7 ?pr8_7 (Or.inl ⟨?gr8_7, ?yr8_7⟩) (by assumption) ?_
  case er8_7 => (simp only [List.getElem?_toArray, List.getElem?_cons_succ, List.getElem?_cons_zero]; rfl)
  case kr8_7 => kernel_rfl
  case lr8_7 => kernel_rfl
  case mr8_7 => kernel_rfl
  case pr8_7 => exact fun _ _ _ h => h
  case gr8_7 => rfl
  case yr8_7 => (intro W hSw; (try dsimp only at hSw); go_simp; try with_reducible rfl)
  try simp only [Act.put, List.setIfInBounds_toArray, List.set_cons_zero, List.set_cons_succ]
  refine wpAnyH_done (by kernel_rfl) ?_ _
  refine NoPanic.normal ?_
  replace HJ := Lib.hid hHeld
  clear hHeld
  have hsz9 := HJ.out.a.lt
  clear QA QRA QLA QL QRL QLL hund hics hids
  go_wp2_with (first
    | (refine wpList_load_row rfl 40 (.tmp 9) rfl _ rfl 40 cs.toArray (0, 0) _ HJ.out.a Try.underlying40 rfl HSc.out ?_)
    | (go_at_call 39; refine (QN.out _).mono ?_; rintro v w9 ⟨A, cap, rfl, hl9, hb9⟩; have ho9 : w.heap.size + 1 + 1 + 1 < w9.heap.size := Nat.lt_of_lt_of_le HJ.out.res.lt hb9.size; have HK := Lib.hid (JI.three (A := A) (N := N) (cap := cap) HJ.out hb9 hl9); have y8 := cell1 HK.out.j.it; have y13 := cell1 HK.out.s; have y5 := cell1 HK.out.j.mi; have y8b := True.intro; clear hl9 hb9 QN)
    | (go_at_call 40; refine (goes_any F S Bn A N cap _ _ HN.out HK.out.l HK.out.j.box.lt (HK.out.j.box.cell 0) (HK.out.j.box.cell 1)).mono ?_; rintro v wg ⟨rfl, hbg⟩; replace HK := Lib.hid (HK.out.next hbg); clear y8 y13 y5 y8b; have y8 := cell1 HK.out.j.it; have y13 := cell1 HK.out.s; have y5 := cell1 HK.out.j.mi; have y8b := cell1 ((HK.out.alloc (.cells #[.int .i64 0] 3)).alloc (.cells #[.bool true] 4)).j.it; clear hbg))
  have h1 : 1 ≤ 5 := by omega
  have e0 := HK.out.j.box.cell 0
  have e1 := HK.out.j.box.cell 1
  have hB13 := HK.out.s.lt
  have hBx := HK.out.j.box.lt
  have hres := HK.out.j.res.lt
  have hmi := HK.out.j.mi.lt
  refine (wpIn_wide (n := 5)).1 ?_
  apply wpIn_rangeFunc_ownF (F := Fence.wide) rfl h1 (gf := 54) (lb := #[.pointer (some ⟨Bn, 0, none⟩)]) rfl trivial (enters_of Try.func54 (by kernel_rfl) rfl)
    (nums_stops F S 4 (by omega) Bn _ (by simp; omega) (cellA _ (cellA _ e0)) (cellA _ (cellA _ e1))) KB.trans (fun W l o o' hl ho hc hw => KB.put W l o o' ho (by simp at hl; omega)) (Below.refl _ _) (fun _ => rfl)
    (fun pre W => Below wg.heap.size wg W ∧ (Blk W wg.heap.size 3 #[.int .i64 (pre.length : Int)] ∧ Blk W (wg.heap.size + 1) 4 #[.bool true] ∧ vals pre <+: nums F S))
    (fun code pre W => code = .ret ∧ ¬ vals pre <+: nums F S)
    (OwnFrom.and (ownFrom_below (Nat.le_refl _) (by simp; omega)) (Own.from (fun st A B row hs hg hr => ⟨blk_kept2 hs.1 hg hr, blk_kept2 hs.2.1 hg hr, hs.2.2⟩) _))
    (fun code => Own.from (fun st A B row hs hg hr => hs) _)
    ⟨((Below.refl _ _).alloc (Nat.le_refl _) _).alloc (by simp) _, (Blk.new wg 3 _).alloc _, Blk.new2 _ _ _ _, List.nil_prefix⟩
  case hassign =>
    intro l x W K hK
    dsimp only [encN] at hK ⊢
    gi_wp2
    exact hK
  case hbody =>
    rintro l pre x W ⟨hB, h17, h18, hp⟩ hlen
    have HKW := HK.out.next hB
    have hBxW : Bn < W.heap.size := Nat.lt_of_lt_of_le hBx hB.size
    have hlN : pre.length < N := by rw [← HN.out]; exact hlen
    obtain ⟨b, off, rfl, hbs, hc⟩ := HKW.l pre.length hlen
    obtain ⟨v, hv⟩ : ∃ v, (nums F S).getD pre.length 0 = v := ⟨_, rfl⟩
    rw [hv] at hc
    have g0 : decide (N ≤ pre.length) = false := decide_eq_false (by omega)
    have g0' : ¬ N ≤ pre.length := by omega
    have hw : IntKind.i64.wrap ((pre.length : Int) + 1) = (pre.length : Int) + 1 := IntWalk.i64_in _ (by omega)
    have y13 := cell1 HKW.s
    have y8 := cell1 HKW.j.it
    have y5 := cell1 HKW.j.mi
    have y6 := cell1 HKW.j.res
    have f6 := HKW.j.res.frozen 0
    have y17 := cell1 h17
    have f17 := h17.frozen 0
    have y18 := cell1 h18
    have f18 := h18.frozen 0
    have HH17 := Lib.hid h17
    have HH18 := Lib.hid h18
    clear h17 h18 e0 e1
    by_cases e : x.1 = v
    · have hpx : vals (pre ++ [x]) <+: nums F S := by
        rw [vals_snoc]
        exact prefix_at hp (by rw [vals_len]; exact hlen) _ (by rw [vals_len, hv, e])
      have e' : (x.1 != v) = false := by simp [e]
      have HP := Lib.hid hpx
      have HKH := Lib.hid HKW
      clear hpx hv hp HKW e
      cases hm : ((pre.length : Int) == most.tmod 5)
      · gi_wp2
        refine ⟨KeepsOthers.setCell _ _ _, KB.set_ _ _ _ (by simp; omega), hB.setCell (p := ⟨wg.heap.size, 0, none⟩) (Nat.le_refl _) _, ?_, HH18.out.far_ (by omega) _, HP.out⟩
        rw [List.length_append]
        exact HH17.out.set_ 0 _
      · gi_wp2_with (refine ⟨trivial, ?_⟩; gi_at_call 40; refine (CallsIn.inRound l (callsIn_wide.2 (goes_any F S Bn (some ⟨b, off, none⟩) N cap _ _ HN.out HKH.out.l HKH.out.j.box.lt (HKH.out.j.box.cell 0) (HKH.out.j.box.cell 1)))).mono ?_; rintro e w6 ⟨rfl, hb6⟩; have i17 := Lib.hid (HH17.out.below hb6 HH17.out.lt); have i18 := Lib.hid (HH18.out.below hb6 HH18.out.lt); clear y17 y18 f17 f18; have y17 := cell1 i17.out; have y18 := cell1 i18.out; have f17 := i17.out.frozen 0; have f18 := i18.out.frozen 0; have HB6 := Lib.hid hb6; clear hb6)
        refine ⟨(keeps_below HB6.out).trans ((KeepsOthers.setCell _ _ _).trans (KeepsOthers.setCell _ _ _)), (KB.below HB6.out hBxW).trans ((KB.set_ _ _ _ (by simp; omega)).trans (KB.set_ _ _ _ (by simp; omega))), ((hB.trans (HB6.out.mono hB.size)).setCell (p := ⟨wg.heap.size + 1, 0, none⟩) (by simp) _).setCell (p := ⟨wg.heap.size, 0, none⟩) (Nat.le_refl _) _, ?_, ?_, HP.out⟩
        · rw [List.length_append]
          exact (i17.out.far_ (by omega) _).set_ 0 _
        · exact (i18.out.set_ 0 _).far_ (by omega) _
    · have hnp : ¬ vals (pre ++ [x]) <+: nums F S := by
        intro h
        rw [vals_snoc] at h
        have := (prefix_val h).2
        rw [vals_len, hv] at this
        exact e this
      have e' : (x.1 != v) = true := by simp [e]
      have HP := Lib.hid hnp
      clear hnp hv hp HKW
      gi_wp2
      exact ⟨KeepsOthers.setCell _ _ _, rfl, HP.out⟩
  case hstop =>
    rintro D code pre W hD hpre ⟨rfl, h⟩ hK
    exact absurd hpre h
  case hdone =>
    rintro D ys W hD hS ⟨hB, h17, h18, hp⟩ hK
    have hl : ys.length = N := by rw [← vals_len, hS, HN.out]
    rw [hl] at h17
    have HKW := HK.out.next hB
    have HM : Hid (JM w W w9.heap.size wg.heap.size D A N cap F S) := ⟨HKW.j.m, HKW.s, h17, h18, ⟨false, HKW.j.res⟩, HKW.j.bel, hK⟩
    have hDD : wg.heap.size + 1 < D := by simp at hD; omega
    have l1 := HKW.s.lt
    clear hD hS hB h17 h18 hp hK hl HKW e0 e1 y8 y13 y5 y8b
    go_upto_region 22 with fail
    refine wp_region_noPanic ?_
    refine wp_region_held_drew (S := (fun w' : World => JM w w' w9.heap.size wg.heap.size D A N cap F S)) (by kernel_rfl) ?tr22_0 (fun hHeld => ?_)
    case tr22_0 => exact HM.out.drew
    refine wpAnyH_take (i := 0) (oi := ?or22_0) (v := ?vr22_0) ?er22_0 ?kr22_0 ?lr22_0 ?mr22_0 ?pr22_0 (Or.inl ⟨?gr22_0, ?yr22_0⟩) (by assumption) ?_
    case er22_0 => (simp only [List.getElem?_toArray, List.getElem?_cons_succ, List.getElem?_cons_zero]; rfl)
    case kr22_0 => kernel_rfl
    case lr22_0 => kernel_rfl
    case mr22_0 => kernel_rfl
    case pr22_0 => exact fun _ _ _ h => h
    case gr22_0 => rfl
    case yr22_0 => (intro W hSw; (try dsimp only at hSw); go_simp; try with_reducible rfl)
    try simp only [Act.put, List.setIfInBounds_toArray, List.set_cons_zero, List.set_cons_succ]
    refine wpAnyH_take (i := 1) (oi := ?or22_1) (v := ?vr22_1) ?er22_1 ?kr22_1 ?lr22_1 ?mr22_1 ?pr22_1 (Or.inl ⟨?gr22_1, ?yr22_1⟩) (by assumption) ?_
    case er22_1 => (simp only [List.getElem?_toArray, List.getElem?_cons_succ, List.getElem?_cons_zero]; rfl)
    case kr22_1 => kernel_rfl
    case lr22_1 => kernel_rfl
    case mr22_1 => kernel_rfl
    case pr22_1 => exact fun _ _ _ h => h
    case gr22_1 => rfl
    case yr22_1 => (intro W hSw; (try dsimp only at hSw); go_simp; try with_reducible rfl)
    try simp only [Act.put, List.setIfInBounds_toArray, List.set_cons_zero, List.set_cons_succ]
    refine wpAnyH_take (i := 2) (oi := ?or22_2) (v := ?vr22_2) ?er22_2 ?kr22_2 ?lr22_2 ?mr22_2 ?pr22_2 (Or.inl ⟨?gr22_2, ?yr22_2⟩) (by assumption) ?_
    case er22_2 => (simp only [List.getElem?_toArray, List.getElem?_cons_succ, List.getElem?_cons_zero]; rfl)
    case kr22_2 => kernel_rfl
    case lr22_2 => kernel_rfl
    case mr22_2 => kernel_rfl
    case pr22_2 => exact fun _ _ _ h => h
    case gr22_2 => rfl
    case yr22_2 => (intro W hSw; (try dsimp only at hSw); go_simp; try with_reducible rfl)
    try simp only [Act.put, List.setIfInBounds_toArray, List.set_cons_zero, List.set_cons_succ]
    refine wpAnyH_take (i := 3) (oi := ?or22_3) (v := ?vr22_3) ?er22_3 ?kr22_3 ?lr22_3 ?mr22_3 ?pr22_3 (Or.inl ⟨?gr22_3, ?yr22_3⟩) (by assumption) ?_
    case er22_3 => (simp only [List.getElem?_toArray, List.getElem?_cons_succ, List.getElem?_cons_zero]; rfl)
    case kr22_3 => kernel_rfl
    case lr22_3 => kernel_rfl
    case mr22_3 => kernel_rfl
    case pr22_3 => exact fun _ _ _ h => h
    case gr22_3 => rfl
    case yr22_3 => (intro W hSw; (try dsimp only at hSw); go_simp; try with_reducible rfl)
    try simp only [Act.put, List.setIfInBounds_toArray, List.set_cons_zero, List.set_cons_succ]
    refine wpAnyH_take (i := 4) (oi := ?or22_4) (v := ?vr22_4) ?er22_4 ?kr22_4 ?lr22_4 ?mr22_4 ?pr22_4 (Or.inl ⟨?gr22_4, ?yr22_4⟩) (by assumption) ?_
    case er22_4 => (simp only [List.getElem?_toArray, List.getElem?_cons_succ, List.getElem?_cons_zero]; rfl)
    case kr22_4 => kernel_rfl
    case lr22_4 => kernel_rfl
    case mr22_4 => kernel_rfl
    case pr22_4 => exact fun _ _ _ h => h
    case gr22_4 => rfl
    case yr22_4 => (intro W hSw; (try dsimp only at hSw); go_simp; try with_reducible rfl)
    try simp only [Act.put, List.setIfInBounds_toArray, List.set_cons_zero, List.set_cons_succ]
    refine wpAnyH_take (i := 5) (oi := ?or22_5) (v := ?vr22_5) ?er22_5 ?kr22_5 ?lr22_5 ?mr22_5 ?pr22_5 (Or.inl ⟨?gr22_5, ?yr22_5⟩) (by assumption) ?_
    case er22_5 => (simp only [List.getElem?_toArray, List.getElem?_cons_succ, List.getElem?_cons_zero]; rfl)
    case kr22_5 => kernel_rfl
    case lr22_5 => kernel_rfl
    case mr22_5 => kernel_rfl
    case pr22_5 => exact fun _ _ _ h => h
    case gr22_5 => rfl
    case yr22_5 => (intro W hSw; (try dsimp only at hSw); go_simp; try with_reducible rfl)
    try simp only [Act.put, List.setIfInBounds_toArray, List.set_cons_zero, List.set_cons_succ]
    refine wpAnyH_take (i := 6) (oi := ?or22_6) (v := ?vr22_6) ?er22_6 ?kr22_6 ?lr22_6 ?mr22_6 ?pr22_6 (Or.inl ⟨?gr22_6, ?yr22_6⟩) (by assumption) ?_
    case er22_6 => (simp only [List.getElem?_toArray, List.getElem?_cons_succ, List.getElem?_cons_zero]; rfl)
    case kr22_6 => kernel_rfl
    case lr22_6 => kernel_rfl
    case mr22_6 => kernel_rfl
    case pr22_6 => exact fun _ _ _ h => h
    case gr22_6 => rfl
    case yr22_6 => (intro W hSw; (try dsimp only at hSw); go_simp; try with_reducible rfl)
    try simp only [Act.put, List.setIfInBounds_toArray, List.set_cons_zero, List.set_cons_succ]
    refine wpAnyH_take (i := 7) (oi := ?or22_7) (v := ?vr22_7) ?er22_7 ?kr22_7 ?lr22_7 ?mr22_7 ?pr22_7 (Or.inl ⟨?gr22_7, ?yr22_7⟩) (by assumption) ?_
    case er22_7 => (simp only [List.getElem?_toArray, List.getElem?_cons_succ, List.getElem?_cons_zero]; rfl)
    case kr22_7 => kernel_rfl
    case lr22_7 => kernel_rfl
    case mr22_7 => kernel_rfl
    case pr22_7 => exact fun _ _ _ h => h
    case gr22_7 => rfl
    case yr22_7 => (intro W hSw; (try dsimp only at hSw); go_simp; try with_reducible rfl)
    try simp only [Act.put, List.setIfInBounds_toArray, List.set_cons_zero, List.set_cons_succ]
    refine wpAnyH_take (i := 8) (oi := ?or22_8) (v := ?vr22_8) ?er22_8 ?kr22_8 ?lr22_8 ?mr22_8 ?pr22_8 (Or.inl ⟨?gr22_8, ?yr22_8⟩) (by assumption) ?_
    case er22_8 => (simp only [List.getElem?_toArray, List.getElem?_cons_succ, List.getElem?_cons_zero]; rfl)
    case kr22_8 => kernel_rfl
    case lr22_8 => kernel_rfl
    case mr22_8 => kernel_rfl
    case pr22_8 => exact fun _ _ _ h => h
    case gr22_8 => rfl
    case yr22_8 => (intro W hSw; (try dsimp only at hSw); go_simp; try with_reducible rfl)
    try simp only [Act.put, List.setIfInBounds_toArray, List.set_cons_zero, List.set_cons_succ]
    refine wpAnyH_take (i := 9) (oi := ?or22_9) (v := ?vr22_9) ?er22_9 ?kr22_9 ?lr22_9 ?mr22_9 ?pr22_9 (Or.inl ⟨?gr22_9, ?yr22_9⟩) (by assumption) ?_
    case er22_9 => (simp only [List.getElem?_toArray, List.getElem?_cons_succ, List.getElem?_cons_zero]; rfl)
    case kr22_9 => kernel_rfl
    case lr22_9 => kernel_rfl
    case mr22_9 => kernel_rfl
    case pr22_9 => exact fun _ _ _ h => h
    case gr22_9 => rfl
    case yr22_9 => (intro W hSw; (try dsimp only at hSw); go_simp; try with_reducible rfl)
    try simp only [Act.put, List.setIfInBounds_toArray, List.set_cons_zero, List.set_cons_succ]
    refine wpAnyH_take (i := 10) (oi := ?or22_10) (v := ?vr22_10) ?er22_10 ?kr22_10 ?lr22_10 ?mr22_10 ?pr22_10 (Or.inl ⟨?gr22_10, ?yr22_10⟩) (by assumption) ?_
    case er22_10 => (simp only [List.getElem?_toArray, List.getElem?_cons_succ, List.getElem?_cons_zero]; rfl)
    case kr22_10 => kernel_rfl
    case lr22_10 => kernel_rfl
    case mr22_10 => kernel_rfl
    case pr22_10 => exact fun _ _ _ h => h
    case gr22_10 => rfl
    case yr22_10 => (intro W hSw; (try dsimp only at hSw); go_simp; try with_reducible rfl)
    try simp only [Act.put, List.setIfInBounds_toArray, List.set_cons_zero, List.set_cons_succ]
    refine wpAnyH_take (i := 11) (oi := ?or22_11) (v := ?vr22_11) ?er22_11 ?kr22_11 ?lr22_11 ?mr22_11 ?pr22_11 (Or.inl ⟨?gr22_11, ?yr22_11⟩) (by assumption) ?_
    case er22_11 => (simp only [List.getElem?_toArray, List.getElem?_cons_succ, List.getElem?_cons_zero]; rfl)
    case kr22_11 => kernel_rfl
    case lr22_11 => kernel_rfl
    case mr22_11 => kernel_rfl
    case pr22_11 => exact fun _ _ _ h => h
    case gr22_11 => rfl
    case yr22_11 => (intro W hSw; (try dsimp only at hSw); go_simp; try with_reducible rfl)
    try simp only [Act.put, List.setIfInBounds_toArray, List.set_cons_zero, List.set_cons_succ]
    refine wpAnyH_take (i := 12) (oi := ?or22_12) (v := ?vr22_12) ?er22_12 ?kr22_12 ?lr22_12 ?mr22_12 ?pr22_12 (Or.inl ⟨?gr22_12, ?yr22_12⟩) (by assumption) ?_
    case er22_12 => (simp only [List.getElem?_toArray, List.getElem?_cons_succ, List.getElem?_cons_zero]; rfl)
    case kr22_12 => kernel_rfl
    case lr22_12 => kernel_rfl
    case mr22_12 => kernel_rfl
    case pr22_12 => exact fun _ _ _ h => h
    case gr22_12 => rfl
    case yr22_12 => (intro W hSw; (try dsimp only at hSw); go_simp; try with_reducible rfl)
    try simp only [Act.put, List.setIfInBounds_toArray, List.set_cons_zero, List.set_cons_succ]
    refine wpAnyH_take (i := 13) (oi := ?or22_13) (v := ?vr22_13) ?er22_13 ?kr22_13 ?lr22_13 ?mr22_13 ?pr22_13 (Or.inl ⟨?gr22_13, ?yr22_13⟩) (by assumption) ?_
    case er22_13 => (simp only [List.getElem?_toArray, List.getElem?_cons_succ, List.getElem?_cons_zero]; rfl)
    case kr22_13 => kernel_rfl
    case lr22_13 => kernel_rfl
    case mr22_13 => kernel_rfl
    case pr22_13 => exact fun _ _ _ h => h
    case gr22_13 => rfl
    case yr22_13 => (intro W hSw; (try dsimp only at hSw); go_simp; try with_reducible rfl)
    try simp only [Act.put, List.setIfInBounds_toArray, List.set_cons_zero, List.set_cons_succ]
    refine wpAnyH_take (i := 14) (oi := ?or22_14) (v := ?vr22_14) ?er22_14 ?kr22_14 ?lr22_14 ?mr22_14 ?pr22_14 (Or.inl ⟨?gr22_14, ?yr22_14⟩) (by assumption) ?_
    case er22_14 => (simp only [List.getElem?_toArray, List.getElem?_cons_succ, List.getElem?_cons_zero]; rfl)
    case kr22_14 => kernel_rfl
    case lr22_14 => kernel_rfl
    case mr22_14 => kernel_rfl
    case pr22_14 => exact fun _ _ _ h => h
    case gr22_14 => rfl
    case yr22_14 => (intro W hSw; (try dsimp only at hSw); have c0 := cell1 hSw.y; go_simp; try with_reducible rfl)
    try simp only [Act.put, List.setIfInBounds_toArray, List.set_cons_zero, List.set_cons_succ]
    refine wpAnyH_take (i := 15) (oi := ?or22_15) (v := ?vr22_15) ?er22_15 ?kr22_15 ?lr22_15 ?mr22_15 ?pr22_15 (Or.inl ⟨?gr22_15, ?yr22_15⟩) (by assumption) ?_
    case er22_15 => (simp only [List.getElem?_toArray, List.getElem?_cons_succ, List.getElem?_cons_zero]; rfl)
    case kr22_15 => kernel_rfl
    case lr22_15 => kernel_rfl
    case mr22_15 => kernel_rfl
    case pr22_15 => exact fun _ _ _ h => h
    case gr22_15 => rfl
    case yr22_15 => (intro W hSw; (try dsimp only at hSw); go_simp; try with_reducible rfl)
    try simp only [Act.put, List.setIfInBounds_toArray, List.set_cons_zero, List.set_cons_succ]
    refine wpAnyH_take (i := 16) (oi := ?or22_16) (v := ?vr22_16) ?er22_16 ?kr22_16 ?lr22_16 ?mr22_16 ?pr22_16 (Or.inl ⟨?gr22_16, ?yr22_16⟩) (by assumption) ?_
    case er22_16 => (simp only [List.getElem?_toArray, List.getElem?_cons_succ, List.getElem?_cons_zero]; rfl)
    case kr22_16 => kernel_rfl
    case lr22_16 => kernel_rfl
    case mr22_16 => kernel_rfl
    case pr22_16 => exact fun _ _ _ h => h
    case gr22_16 => rfl
    case yr22_16 => (intro W hSw; (try dsimp only at hSw); go_simp; try with_reducible rfl)
    try simp only [Act.put, List.setIfInBounds_toArray, List.set_cons_zero, List.set_cons_succ]
    refine wpAnyH_take (i := 17) (oi := ?or22_17) (v := ?vr22_17) ?er22_17 ?kr22_17 ?lr22_17 ?mr22_17 ?pr22_17 (Or.inl ⟨?gr22_17, ?yr22_17⟩) (by assumption) ?_
    case er22_17 => (simp only [List.getElem?_toArray, List.getElem?_cons_succ, List.getElem?_cons_zero]; rfl)
    case kr22_17 => kernel_rfl
    case lr22_17 => kernel_rfl
    case mr22_17 => kernel_rfl
    case pr22_17 => exact fun _ _ _ h => h
    case gr22_17 => rfl
    case yr22_17 => (intro W hSw; (try dsimp only at hSw); have c0 := cell1 hSw.i; go_simp; try with_reducible rfl)
    try simp only [Act.put, List.setIfInBounds_toArray, List.set_cons_zero, List.set_cons_succ]
    refine wpAnyH_take (i := 18) (oi := ?or22_18) (v := ?vr22_18) ?er22_18 ?kr22_18 ?lr22_18 ?mr22_18 ?pr22_18 (Or.inl ⟨?gr22_18, ?yr22_18⟩) (by assumption) ?_
    case er22_18 => (simp only [List.getElem?_toArray, List.getElem?_cons_succ, List.getElem?_cons_zero]; rfl)
    case kr22_18 => kernel_rfl
    case lr22_18 => kernel_rfl
    case mr22_18 => kernel_rfl
    case pr22_18 => exact fun _ _ _ h => h
    case gr22_18 => rfl
    case yr22_18 => (intro W hSw; (try dsimp only at hSw); have c0 := cell1 hSw.s; go_simp; try with_reducible rfl)
    try simp only [Act.put, List.setIfInBounds_toArray, List.set_cons_zero, List.set_cons_succ]
    refine wpAnyH_take (i := 19) (oi := ?or22_19) (v := ?vr22_19) ?er22_19 ?kr22_19 ?lr22_19 ?mr22_19 ?pr22_19 (Or.inl ⟨?gr22_19, ?yr22_19⟩) (by assumption) ?_
    case er22_19 => (simp only [List.getElem?_toArray, List.getElem?_cons_succ, List.getElem?_cons_zero]; rfl)
    case kr22_19 => kernel_rfl
    case lr22_19 => kernel_rfl
    case mr22_19 => kernel_rfl
    case pr22_19 => exact fun _ _ _ h => h
    case gr22_19 => rfl
    case yr22_19 => (intro W hSw; (try dsimp only at hSw); go_simp; try with_reducible rfl)
    try simp only [Act.put, List.setIfInBounds_toArray, List.set_cons_zero, List.set_cons_succ]
    refine wpAnyH_take (i := 20) (oi := ?or22_20) (v := ?vr22_20) ?er22_20 ?kr22_20 ?lr22_20 ?mr22_20 ?pr22_20 (Or.inl ⟨?gr22_20, ?yr22_20⟩) (by assumption) ?_
    case er22_20 => (simp only [List.getElem?_toArray, List.getElem?_cons_succ, List.getElem?_cons_zero]; rfl)
    case kr22_20 => kernel_rfl
    case lr22_20 => kernel_rfl
    case mr22_20 => kernel_rfl
    case pr22_20 => exact fun _ _ _ h => h
    case gr22_20 => rfl
    case yr22_20 => (intro W hSw; (try dsimp only at hSw); go_simp; try with_reducible rfl)
    try simp only [Act.put, List.setIfInBounds_toArray, List.set_cons_zero, List.set_cons_succ]
    refine wpAnyH_take (i := 21) (oi := ?or22_21) (v := ?vr22_21) ?er22_21 ?kr22_21 ?lr22_21 ?mr22_21 ?pr22_21 (Or.inl ⟨?gr22_21, ?yr22_21⟩) (by assumption) ?_
    case er22_21 => (simp only [List.getElem?_toArray, List.getElem?_cons_succ, List.getElem?_cons_zero]; rfl)
    case kr22_21 => kernel_rfl
    case lr22_21 => kernel_rfl
    case mr22_21 => kernel_rfl
    case pr22_21 => exact fun _ _ _ h => h
    case gr22_21 => rfl
    case yr22_21 => (intro W hSw; (try dsimp only at hSw); go_simp; try with_reducible rfl)
    try simp only [Act.put, List.setIfInBounds_toArray, List.set_cons_zero, List.set_cons_succ]
    refine wpAnyH_take (i := 22) (oi := ?or22_22) (v := ?vr22_22) ?er22_22 ?kr22_22 ?lr22_22 ?mr22_22 ?pr22_22 (Or.inl ⟨?gr22_22, ?yr22_22⟩) (by assumption) ?_
    case er22_22 => (simp only [List.getElem?_toArray, List.getElem?_cons_succ, List.getElem?_cons_zero]; rfl)
    case kr22_22 => kernel_rfl
    case lr22_22 => kernel_rfl
    case mr22_22 => kernel_rfl
    case pr22_22 => exact fun _ _ _ h => h
    case gr22_22 => rfl
    case yr22_22 => (intro W hSw; (try dsimp only at hSw); go_simp; try with_reducible rfl)
    try simp only [Act.put, List.setIfInBounds_toArray, List.set_cons_zero, List.set_cons_succ]
    refine wpAnyH_take (i := 23) (oi := ?or22_23) (v := ?vr22_23) ?er22_23 ?kr22_23 ?lr22_23 ?mr22_23 ?pr22_23 (Or.inl ⟨?gr22_23, ?yr22_23⟩) (by assumption) ?_
    case er22_23 => (simp only [List.getElem?_toArray, List.getElem?_cons_succ, List.getElem?_cons_zero]; rfl)
    case kr22_23 => kernel_rfl
    case lr22_23 => kernel_rfl
    case mr22_23 => kernel_rfl
    case pr22_23 => exact fun _ _ _ h => h
    case gr22_23 => rfl
    case yr22_23 => (intro W hSw; (try dsimp only at hSw); have m0 := hSw.m.cell 0; have m1 := hSw.m.cell 1; simp at m0 m1; go_simp; try with_reducible rfl)
    try simp only [Act.put, List.setIfInBounds_toArray, List.set_cons_zero, List.set_cons_succ]
    refine wpAnyH_take (i := 25) (oi := ?or22_25) (v := ?vr22_25) ?er22_25 ?kr22_25 ?lr22_25 ?mr22_25 ?pr22_25 (Or.inl ⟨?gr22_25, ?yr22_25⟩) (by assumption) ?_
    case er22_25 => (simp only [List.getElem?_toArray, List.getElem?_cons_succ, List.getElem?_cons_zero]; rfl)
    case kr22_25 => kernel_rfl
    case lr22_25 => kernel_rfl
    case mr22_25 => kernel_rfl
    case pr22_25 => exact fun _ _ _ h => h
    case gr22_25 => rfl
    case yr22_25 => (intro W hSw; (try dsimp only at hSw); have c0 := cell1 hSw.s; go_simp; try with_reducible rfl)
    try simp only [Act.put, List.setIfInBounds_toArray, List.set_cons_zero, List.set_cons_succ]
    refine wpAnyH_take (i := 26) (oi := ?or22_26) (v := ?vr22_26) ?er22_26 ?kr22_26 ?lr22_26 ?mr22_26 ?pr22_26 (Or.inl ⟨?gr22_26, ?yr22_26⟩) (by assumption) ?_
    case er22_26 => (simp only [List.getElem?_toArray, List.getElem?_cons_succ, List.getElem?_cons_zero]; rfl)
    case kr22_26 => kernel_rfl
    case lr22_26 => kernel_rfl
    case mr22_26 => kernel_rfl
    case pr22_26 => exact fun _ _ _ h => h
    case gr22_26 => rfl
    case yr22_26 => (intro W hSw; (try dsimp only at hSw); go_simp; try with_reducible rfl)
    try simp only [Act.put, List.setIfInBounds_toArray, List.set_cons_zero, List.set_cons_succ]
    refine wpAnyH_ready (rs := [24]) (by kernel_rfl) (by simp) ?_
    refine AllReadyH.cons (o := ?or22_24) ?er22_24 ?fr22_24 ?mr22_24
    case er22_24 => (simp only [List.getElem?_toArray, List.getElem?_cons_succ, List.getElem?_cons_zero]; rfl)
    case mr22_24 => exact AllReadyH.nil
    intro K hK
    go_simp
    go_at_call 18
    refine (QK.out _).mono ?_
    rintro v w' ⟨rfl, hb⟩
    (try go_simp)
    refine hK.out _ _ ?sr22_24 (fun hHeld => ?_)
    case sr22_24 => exact JM.next (by assumption) hb
    clear hK K
    try simp only [Act.put, List.setIfInBounds_toArray, List.set_cons_zero, List.set_cons_succ]
    refine wpAnyH_take (i := 27) (oi := ?or22_27) (v := ?vr22_27) ?er22_27 ?kr22_27 ?lr22_27 ?mr22_27 ?pr22_27 (Or.inl ⟨?gr22_27, ?yr22_27⟩) (by assumption) ?_
    case er22_27 => (simp only [List.getElem?_toArray, List.getElem?_cons_succ, List.getElem?_cons_zero]; rfl)
    case kr22_27 => kernel_rfl
    case lr22_27 => kernel_rfl
    case mr22_27 => kernel_rfl
    case pr22_27 => exact fun _ _ _ h => h
    case gr22_27 => rfl
    case yr22_27 => (intro W hSw; (try dsimp only at hSw); go_simp; try with_reducible rfl)
    try simp only [Act.put, List.setIfInBounds_toArray, List.set_cons_zero, List.set_cons_succ]
    refine wpAnyH_take (i := 28) (oi := ?or22_28) (v := ?vr22_28) ?er22_28 ?kr22_28 ?lr22_28 ?mr22_28 ?pr22_28 (Or.inl ⟨?gr22_28, ?yr22_28⟩) (by assumption) ?_
    case er22_28 => (simp only [List.getElem?_toArray, List.getElem?_cons_succ, List.getElem?_cons_zero]; rfl)
    case kr22_28 => kernel_rfl
    case lr22_28 => kernel_rfl
    case mr22_28 => kernel_rfl
    case pr22_28 => exact fun _ _ _ h => h
    case gr22_28 => rfl
    case yr22_28 => (intro W hSw; (try dsimp only at hSw); go_simp; try with_reducible rfl)
    try simp only [Act.put, List.setIfInBounds_toArray, List.set_cons_zero, List.set_cons_succ]
    refine wpAnyH_ready (rs := [29]) (by kernel_rfl) (by simp) ?_
    refine AllReadyH.cons (o := ?or22_29) ?er22_29 ?fr22_29 ?mr22_29
    case er22_29 => (simp only [List.getElem?_toArray, List.getElem?_cons_succ, List.getElem?_cons_zero]; rfl)
    case mr22_29 => exact AllReadyH.nil
    intro K hK
    obtain ⟨b6, hr6⟩ := hHeld.res
    have y6 := cell1 hr6
    have f6 := hr6.frozen 0
    have HH := Lib.hid hHeld
    clear hHeld
    go_simp
    refine hK.out _ _ ?sr22_29 (fun hHeld => ?_)
    case sr22_29 => exact JM.store HH.out (by omega) (by omega) (by omega) true
    clear hK K
    try simp only [Act.put, List.setIfInBounds_toArray, List.set_cons_zero, List.set_cons_succ]
    refine wpAnyH_done (by kernel_rfl) ?_ _
    refine NoPanic.normal ?_
    go_wp2
    have hK' := hHeld.d
    refine ⟨by simp, .inl ⟨_, _, rfl, run_takeDeferred hK', ?_⟩⟩
    have hc5 := cell_kept (World.cell?_setCell_same' w' ⟨w.heap.size + 1 + 1 + 1, 0, none⟩ (.bool true) (by rw [y6]; rfl)) (grownBy_putObj' _ D (.deferred none)) (fun r e => by cases e; exact ⟨_, hK', rfl⟩)
    refine ⟨.bool true, ?_, rfl, hHeld.bel.trans (belowK_b (w := w) (Nat.le_refl _) _ D _ _ (by omega) hK' rfl rfl)⟩
    simp [results, Try.f10, go_sem, hc5]
end Go.Proofs.Ytieloocmkgficaa
