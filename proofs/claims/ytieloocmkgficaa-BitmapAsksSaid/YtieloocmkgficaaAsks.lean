/-
  BitmapAsks: the walk.
-/
import Derived.Test.YtieloocmkgficaaAsksP
import Derived.Test.YtieloocmkgficaaSetsP
import Derived.Deep.RegionHeld3
import Derived.Deep.RegionHeld2
import Derived.Deep.Cut
namespace Go.Proofs.Ytieloocmkgficaa
open Go.RowKit
set_option linter.unusedVariables false
set_option linter.unusedSimpArgs false
theorem range_below {w w' : World} {g B : Nat} {cs : List Value} (h : w.rangeAt g 0 cs) (hb : Below B w w') (hg : g < B) : w'.rangeAt g 0 cs :=
  fun j v hj => (hb.cell (p := ⟨g, 0 + j, none⟩) hg).trans (h j v hj)
theorem range_blk {w : World} {g : Nat} {t : TypeId} {r : List Bool} (h : Blk w g t (rowA r)) : w.rangeAt g 0 (r.map Value.bool) := fun j v hj => by
  rw [h.cell]
  simpa [rowA] using hj
theorem keepA {g0 g6 Bd : Nat} {x0 x1 : Value} {cs : List Value} {w0 W w' : World}
    (hS : W.cell? ⟨g0, 0, none⟩ = some x0 ∧ W.cell? ⟨g0, 1, none⟩ = some x1 ∧ W.rangeAt g6 0 cs ∧ g6 < W.heap.size ∧ g0 < W.heap.size ∧ Bd ≤ W.heap.size ∧ Below Bd w0 W)
    (hb : Below W.heap.size W w') :
    w'.cell? ⟨g0, 0, none⟩ = some x0 ∧ w'.cell? ⟨g0, 1, none⟩ = some x1 ∧ w'.rangeAt g6 0 cs ∧ g6 < w'.heap.size ∧ g0 < w'.heap.size ∧ Bd ≤ w'.heap.size ∧ Below Bd w0 w' := by
  obtain ⟨h0, h1, h2, h6, h3, h4, h5⟩ := hS
  exact ⟨(hb.cell (p := ⟨g0, 0, none⟩) h3).trans h0, (hb.cell (p := ⟨g0, 1, none⟩) h3).trans h1, range_below h2 hb h6, Nat.lt_of_lt_of_le h6 hb.size, Nat.lt_of_lt_of_le h3 hb.size, Nat.le_trans h4 hb.size, h5.trans (hb.mono h4)⟩
theorem keepA_drew {g0 g6 Bd : Nat} {x0 x1 : Value} {cs : List Value} {w0 W : World}
    (hS : W.cell? ⟨g0, 0, none⟩ = some x0 ∧ W.cell? ⟨g0, 1, none⟩ = some x1 ∧ W.rangeAt g6 0 cs ∧ g6 < W.heap.size ∧ g0 < W.heap.size ∧ Bd ≤ W.heap.size ∧ Below Bd w0 W) :
    W.drew.cell? ⟨g0, 0, none⟩ = some x0 ∧ W.drew.cell? ⟨g0, 1, none⟩ = some x1 ∧ W.drew.rangeAt g6 0 cs ∧ g6 < W.drew.heap.size ∧ g0 < W.drew.heap.size ∧ Bd ≤ W.drew.heap.size ∧ Below Bd w0 W.drew := by
  obtain ⟨h0, h1, h2, h6, h3, h4, h5⟩ := hS
  exact ⟨h0, h1, h2, h6, h3, h4, h5.drew⟩
theorem und40 : ∃ n, Try.prog.underlying 40 = some (.array n 4) := ⟨_, Try.underlying40⟩
set_option maxRecDepth 100000 in
set_option maxHeartbeats 2000000 in
theorem asks_run (F S : B64) (n e : Int) (X XS : B64) (r y : List Bool) (Z ZS : B64) (z : List Bool) (b h : Bool) (hr : r.length = 129) (hy : y.length = 129)
    (QR : Hid (∀ w, Calls Try.prog 27 #[.agg #[.int .u64 (iv F), .int .u64 (iv S)]] w fun e w' => e = .returned (.agg (rowA r)) ∧ Below w.heap.size w w'))
    (QW : Hid (∀ w, Calls Try.prog 16 #[.agg #[.int .u64 (iv F), .int .u64 (iv S)], .int .i64 n] w fun v w' => v = .returned (.tuple #[.agg #[.int .u64 (iv X), .int .u64 (iv XS)], .int .i64 e]) ∧ Below w.heap.size w w'))
    (QY : Hid (∀ w, Calls Try.prog 33 #[.agg (rowA r), .int .i64 n] w fun v w' => v = .returned (.tuple #[.agg (rowA y), .int .i64 e]) ∧ Below w.heap.size w w'))
    (QL : Hid (∀ w, Calls Try.prog 24 #[.agg #[.int .u64 (iv X), .int .u64 (iv XS)], .agg (rowA y)] w fun v w' => v = .returned (.bool true) ∧ Below w.heap.size w w'))
    (QZ : Hid (∀ w, Calls Try.prog 17 #[.agg #[.int .u64 (iv F), .int .u64 (iv S)], .int .i64 n] w fun v w' => v = .returned (.agg #[.int .u64 (iv Z), .int .u64 (iv ZS)]) ∧ Below w.heap.size w w'))
    (QO : Hid (∀ w, Calls Try.prog 34 #[.agg (rowA r), .int .i64 n] w fun v w' => v = .returned (.agg (rowA z)) ∧ Below w.heap.size w w'))
    (QM : Hid (∀ w, Calls Try.prog 24 #[.agg #[.int .u64 (iv Z), .int .u64 (iv ZS)], .agg (rowA z)] w fun v w' => v = .returned (.bool true) ∧ Below w.heap.size w w'))
    (Q1 : Hid (∀ w, Calls Try.prog 19 #[.agg #[.int .u64 (iv F), .int .u64 (iv S)]] w fun v w' => v = .returned (.bool b) ∧ Below w.heap.size w w'))
    (Q2 : Hid (∀ w, Calls Try.prog 35 #[.agg (rowA r)] w fun v w' => v = .returned (.bool b) ∧ Below w.heap.size w w'))
    (Q3 : Hid (∀ w, Calls Try.prog 14 #[.agg #[.int .u64 (iv F), .int .u64 (iv S)], .int .i64 n] w fun v w' => v = .returned (.bool h) ∧ Below w.heap.size w w'))
    (Q4 : Hid (∀ w, Calls Try.prog 36 #[.agg (rowA r), .int .i64 n] w fun v w' => v = .returned (.bool h) ∧ Below w.heap.size w w'))
    (w : World) : Calls Try.prog 9 #[.agg #[.int .u64 (iv F), .int .u64 (iv S)], .int .i64 n] w fun v w' => v = .returned (.bool true) ∧ Below w.heap.size w w' := by
  have hz := zero40
  have HSr : Hid ((Try.prog.info? 40).map (·.size) = some (rowA r).size) := by show _ = _; rw [info40, rowA_size, hr]
  have HSy : Hid ((Try.prog.info? 40).map (·.size) = some (rowA y).size) := by show _ = _; rw [info40, rowA_size, hy]
  have HZr : Hid ((rowA zeros).size = (rowA r).size) := by show _ = _; rw [rowA_size, rowA_size, hr]; exact zeros_len
  have HZy : Hid ((rowA zeros).size = (rowA y).size) := by show _ = _; rw [rowA_size, rowA_size, hy]; exact zeros_len
  have H1r : Hid ((rowA r).all (·.oneCell') = true) := rowA_one r
  have H1y : Hid ((rowA y).all (·.oneCell') = true) := rowA_one y
  have HR := Lib.hid hr
  clear hr hy
  go_enter Try.func9, Try.ntmps9
  go_upto_region 6 with (first
    | (go_at_call 11; refine (examples_ok _).mono ?_; rintro v w1 ⟨rfl, hb1⟩; have hm1 := (Blk.new w 24 #[.int .u64 (iv F), .int .u64 (iv S)]).below hb1 (by simp); have i1 := ((Below.refl _ w).alloc (Nat.le_refl _) (.cells #[.int .u64 (iv F), .int .u64 (iv S)] 24)).trans (hb1.mono (by simp)); have x0 := hm1.cell 0; have x1 := hm1.cell 1; simp at x0 x1; have HM1 := Lib.hid hm1; clear hm1 hb1)
    | (go_at_call 27; refine (QR.out _).mono ?_; rintro v w2 ⟨rfl, hb2⟩; have hs2 : w.heap.size < w2.heap.size := Nat.lt_of_lt_of_le HM1.out.lt hb2.size; have HM2 := Lib.hid ((HM1.out.below hb2 HM1.out.lt).alloc (.cells (rowA zeros) 40)); have HT2 := Lib.hid (Blk.new w2 40 (rowA zeros)); have i2 := (i1.trans (hb2.mono i1.size)).alloc (Nat.le_trans i1.size hb2.size) (.cells (rowA zeros) 40); clear hb2)
    | (refine wpList_store_row rfl 40 (.tmp 6) (.tmp 15) rfl _ (rowA r) rfl rfl 40 (rowA zeros) HT2.out HSr.out HZr.out H1r.out ?_; have HT3 := Lib.hid (Blk.setRow (r := r) HT2.out); have hm3 := HM2.out.setRow_far (b := w2.heap.size) (c := rowA r) (by omega); have i3 := below_setRow (c := rowA r) i2 (g := w2.heap.size) (by omega); have y0 := hm3.cell 0; have y1 := hm3.cell 1; simp at y0 y1; have HM3 := Lib.hid hm3; clear hm3)
    | (go_at_call 16; refine (QW.out _).mono ?_; rintro v w4 ⟨rfl, hb4⟩; have hs4 : w2.heap.size < w4.heap.size := Nat.lt_of_lt_of_le HT3.out.lt hb4.size; have HM4 := Lib.hid ((HM3.out.below hb4 HM3.out.lt).alloc (.cells #[.int .u64 (iv X), .int .u64 (iv XS)] 24)); have HT4 := Lib.hid ((HT3.out.below hb4 HT3.out.lt).alloc (.cells #[.int .u64 (iv X), .int .u64 (iv XS)] 24)); have HX4 := Lib.hid (Blk.new w4 24 #[.int .u64 (iv X), .int .u64 (iv XS)]); have i4 := (i3.trans (hb4.mono i3.size)).alloc (Nat.le_trans i3.size hb4.size) (.cells #[.int .u64 (iv X), .int .u64 (iv XS)] 24); clear hb4)
    | (refine wpList_load_row rfl 40 (.tmp 6) rfl _ rfl 40 (rowA r) (0, 0) _ HT4.out Try.underlying40 rfl HSr.out ?_)
    | (go_at_call 33; refine (QY.out _).mono ?_; rintro v w5 ⟨rfl, hb5⟩; have hs5 : w4.heap.size < w5.heap.size := Nat.lt_of_lt_of_le HX4.out.lt hb5.size; have HM5 := Lib.hid ((HM4.out.below hb5 HM4.out.lt).alloc (.cells (rowA zeros) 40)); have HT5 := Lib.hid ((HT4.out.below hb5 HT4.out.lt).alloc (.cells (rowA zeros) 40)); have HX5 := Lib.hid ((HX4.out.below hb5 HX4.out.lt).alloc (.cells (rowA zeros) 40)); have HY5 := Lib.hid (Blk.new w5 40 (rowA zeros)); have i5 := (i4.trans (hb5.mono i4.size)).alloc (Nat.le_trans i4.size hb5.size) (.cells (rowA zeros) 40); clear hb5)
    | (refine wpList_store_row rfl 40 (.tmp 9) (.tmp 26) rfl _ (rowA y) rfl rfl 40 (rowA zeros) HY5.out HSy.out HZy.out H1y.out ?_; have HY6 := Lib.hid (Blk.setRow (r := y) HY5.out); have HM6 := Lib.hid (HM5.out.setRow_far (b := w5.heap.size) (c := rowA y) (by omega)); have HT6 := Lib.hid (HT5.out.setRow_far (b := w5.heap.size) (c := rowA y) (by omega)); have hx6 := HX5.out.setRow_far (b := w5.heap.size) (c := rowA y) (by omega); have i6 := below_setRow (c := rowA y) i5 (g := w5.heap.size) (by omega); have z0 := hx6.cell 0; have z1 := hx6.cell 1; simp at z0 z1; clear hx6)
    | (refine wpList_load_row rfl 40 (.tmp 9) rfl _ rfl 40 (rowA y) (0, 0) _ HY6.out Try.underlying40 rfl HSy.out ?_)
    | (go_at_call 24; refine (QL.out _).mono ?_; rintro v w7 ⟨rfl, hb7⟩; have HM7 := Lib.hid (HM6.out.below hb7 HM6.out.lt); have HT7 := Lib.hid (HT6.out.below hb7 HT6.out.lt); have i7 := i6.trans (hb7.mono i6.size)))
  have m0 := HM7.out.cell 0
  have m1 := HM7.out.cell 1
  have ml := HM7.out.lt
  have T7 := HT7.out
  have il := i7.size
  simp at m0 m1
  have R7 := range_blk T7
  have t7 := T7.lt
  have hinfo : (Try.prog.info? 40).map (·.size) = some (r.map Value.bool).length := by rw [info40, List.length_map, HR.out]
  obtain ⟨cs, hcs⟩ : ∃ cs, r.map Value.bool = cs := ⟨_, rfl⟩
  have hra : rowA r = cs.toArray := by rw [← hcs]; rfl
  rw [hcs] at R7 hinfo
  rw [hra] at QO Q2 Q4
  have hund := Try.underlying40
  clear hcs hra T7 hz x0 x1 y0 y1 z0 z1 i1 i2 i3 i4 i5 i6 hb7 HM1 HM2 HM3 HM4 HM5 HM6 HM7 HT2 HT3 HT4 HT5 HT6 HT7 HX4 HX5 HY5 HY6
  go_region_held3 (fun w' => w'.cell? ⟨w.heap.size, 0, none⟩ = some (.int .u64 (iv F)) ∧ w'.cell? ⟨w.heap.size, 1, none⟩ = some (.int .u64 (iv S)) ∧ w'.rangeAt w2.heap.size 0 cs ∧ w2.heap.size < w'.heap.size ∧ w.heap.size < w'.heap.size ∧ w.heap.size ≤ w'.heap.size ∧ Below w.heap.size w w')
    (first | exact keepA (by assumption) (by assumption) | exact keepA (keepA_drew (by assumption)) (by assumption) | exact keepA_drew ⟨m0, m1, R7, t7, ml, il, i7⟩ | exact keepA_drew (by assumption) | assumption)
    ((first | (go_at_call 17; refine (QZ.out _).mono ?_; rintro v w' ⟨rfl, hb⟩) | (go_at_call 34; refine (QO.out _).mono ?_; rintro v w' ⟨rfl, hb⟩) | (go_at_call 24; refine (QM.out _).mono ?_; rintro v w' ⟨rfl, hb⟩)))
  rename_i HL
  obtain ⟨n0, n1, R8, t8, nl, ll, i8⟩ := HL
  clear m0 m1 R7 t7 ml il i7
  go_upto_region 7 with fail
  refine wp_region_noPanic ?_
  refine wp_region_held_drew (S := (fun w' : World => w'.cell? ⟨w.heap.size, 0, none⟩ = some (.int .u64 (iv F)) ∧ w'.cell? ⟨w.heap.size, 1, none⟩ = some (.int .u64 (iv S)) ∧ w'.rangeAt w2.heap.size 0 cs ∧ w2.heap.size < w'.heap.size ∧ w.heap.size < w'.heap.size ∧ w.heap.size ≤ w'.heap.size ∧ Below w.heap.size w w')) (by kernel_rfl) ?s0 (fun hHeld => ?_)
  case s0 => exact keepA_drew ⟨n0, n1, R8, t8, nl, ll, i8⟩
  refine wpAnyH_take (i := 0) (oi := ?o0) (v := ?v0) ?e0 ?k0 ?l0 ?m0 ?p0 (Or.inl ⟨?g0, ?y0⟩) (by assumption) ?_
  case e0 => (simp only [List.getElem?_toArray, List.getElem?_cons_succ, List.getElem?_cons_zero]; rfl)
  case k0 => kernel_rfl
  case l0 => kernel_rfl
  case m0 => kernel_rfl
  case p0 => exact fun _ _ _ h => h
  case g0 => rfl
  case y0 => (intro W hSw; (try dsimp only at hSw); go_simp; try with_reducible rfl)
  try simp only [Act.put, List.setIfInBounds_toArray, List.set_cons_zero, List.set_cons_succ]
  refine wpAnyH_take (i := 1) (oi := ?o1) (v := ?v1) ?e1 ?k1 ?l1 ?m1 ?p1 (Or.inl ⟨?g1, ?y1⟩) (by assumption) ?_
  case e1 => (simp only [List.getElem?_toArray, List.getElem?_cons_succ, List.getElem?_cons_zero]; rfl)
  case k1 => kernel_rfl
  case l1 => kernel_rfl
  case m1 => kernel_rfl
  case p1 => exact fun _ _ _ h => h
  case g1 => rfl
  case y1 => (intro W hSw; (try dsimp only at hSw); go_simp; try with_reducible rfl)
  try simp only [Act.put, List.setIfInBounds_toArray, List.set_cons_zero, List.set_cons_succ]
  refine wpAnyH_take (i := 2) (oi := ?o2) (v := ?v2) ?e2 ?k2 ?l2 ?m2 ?p2 (Or.inl ⟨?g2, ?y2⟩) (by assumption) ?_
  case e2 => (simp only [List.getElem?_toArray, List.getElem?_cons_succ, List.getElem?_cons_zero]; rfl)
  case k2 => kernel_rfl
  case l2 => kernel_rfl
  case m2 => kernel_rfl
  case p2 => exact fun _ _ _ h => h
  case g2 => rfl
  case y2 => (intro W hSw; (try dsimp only at hSw); go_simp; try with_reducible rfl)
  try simp only [Act.put, List.setIfInBounds_toArray, List.set_cons_zero, List.set_cons_succ]
  refine wpAnyH_take (i := 3) (oi := ?o3) (v := ?v3) ?e3 ?k3 ?l3 ?m3 ?p3 (Or.inl ⟨?g3, ?y3⟩) (by assumption) ?_
  case e3 => (simp only [List.getElem?_toArray, List.getElem?_cons_succ, List.getElem?_cons_zero]; rfl)
  case k3 => kernel_rfl
  case l3 => kernel_rfl
  case m3 => kernel_rfl
  case p3 => exact fun _ _ _ h => h
  case g3 => rfl
  case y3 => (intro W hSw; (try dsimp only at hSw); go_simp; try with_reducible rfl)
  try simp only [Act.put, List.setIfInBounds_toArray, List.set_cons_zero, List.set_cons_succ]
  refine wpAnyH_take (i := 4) (oi := ?o4) (v := ?v4) ?e4 ?k4 ?l4 ?m4 ?p4 (Or.inl ⟨?g4, ?y4⟩) (by assumption) ?_
  case e4 => (simp only [List.getElem?_toArray, List.getElem?_cons_succ, List.getElem?_cons_zero]; rfl)
  case k4 => kernel_rfl
  case l4 => kernel_rfl
  case m4 => kernel_rfl
  case p4 => exact fun _ _ _ h => h
  case g4 => rfl
  case y4 => (intro W hSw; (try dsimp only at hSw); go_simp; try with_reducible rfl)
  try simp only [Act.put, List.setIfInBounds_toArray, List.set_cons_zero, List.set_cons_succ]
  refine wpAnyH_take (i := 5) (oi := ?o5) (v := ?v5) ?e5 ?k5 ?l5 ?m5 ?p5 (Or.inl ⟨?g5, ?y5⟩) (by assumption) ?_
  case e5 => (simp only [List.getElem?_toArray, List.getElem?_cons_succ, List.getElem?_cons_zero]; rfl)
  case k5 => kernel_rfl
  case l5 => kernel_rfl
  case m5 => kernel_rfl
  case p5 => exact fun _ _ _ h => h
  case g5 => rfl
  case y5 => (intro W hSw; (try dsimp only at hSw); go_simp; try with_reducible rfl)
  try simp only [Act.put, List.setIfInBounds_toArray, List.set_cons_zero, List.set_cons_succ]
  refine wpAnyH_take (i := 6) (oi := ?o6) (v := ?v6) ?e6 ?k6 ?l6 ?m6 ?p6 (Or.inl ⟨?g6, ?y6⟩) (by assumption) ?_
  case e6 => (simp only [List.getElem?_toArray, List.getElem?_cons_succ, List.getElem?_cons_zero]; rfl)
  case k6 => kernel_rfl
  case l6 => kernel_rfl
  case m6 => kernel_rfl
  case p6 => exact fun _ _ _ h => h
  case g6 => rfl
  case y6 => (intro W hSw; (try dsimp only at hSw); go_simp; try with_reducible rfl)
  try simp only [Act.put, List.setIfInBounds_toArray, List.set_cons_zero, List.set_cons_succ]
  refine wpAnyH_take (i := 7) (oi := ?o7) (v := ?v7) ?e7 ?k7 ?l7 ?m7 ?p7 (Or.inl ⟨?g7, ?y7⟩) (by assumption) ?_
  case e7 => (simp only [List.getElem?_toArray, List.getElem?_cons_succ, List.getElem?_cons_zero]; rfl)
  case k7 => kernel_rfl
  case l7 => kernel_rfl
  case m7 => kernel_rfl
  case p7 => exact fun _ _ _ h => h
  case g7 => rfl
  case y7 => (intro W hSw; (try dsimp only at hSw); go_simp; try with_reducible rfl)
  try simp only [Act.put, List.setIfInBounds_toArray, List.set_cons_zero, List.set_cons_succ]
  refine wpAnyH_take (i := 8) (oi := ?o8) (v := ?v8) ?e8 ?k8 ?l8 ?m8 ?p8 (Or.inl ⟨?g8, ?y8⟩) (by assumption) ?_
  case e8 => (simp only [List.getElem?_toArray, List.getElem?_cons_succ, List.getElem?_cons_zero]; rfl)
  case k8 => kernel_rfl
  case l8 => kernel_rfl
  case m8 => kernel_rfl
  case p8 => exact fun _ _ _ h => h
  case g8 => rfl
  case y8 => (intro W hSw; (try dsimp only at hSw); go_simp; try with_reducible rfl)
  try simp only [Act.put, List.setIfInBounds_toArray, List.set_cons_zero, List.set_cons_succ]
  refine wpAnyH_take (i := 9) (oi := ?o9) (v := ?v9) ?e9 ?k9 ?l9 ?m9 ?p9 (Or.inl ⟨?g9, ?y9⟩) (by assumption) ?_
  case e9 => (simp only [List.getElem?_toArray, List.getElem?_cons_succ, List.getElem?_cons_zero]; rfl)
  case k9 => kernel_rfl
  case l9 => kernel_rfl
  case m9 => kernel_rfl
  case p9 => exact fun _ _ _ h => h
  case g9 => rfl
  case y9 => (intro W hSw; (try dsimp only at hSw); go_simp; try with_reducible rfl)
  try simp only [Act.put, List.setIfInBounds_toArray, List.set_cons_zero, List.set_cons_succ]
  refine wpAnyH_take (i := 10) (oi := ?o10) (v := ?v10) ?e10 ?k10 ?l10 ?m10 ?p10 (Or.inl ⟨?g10, ?y10⟩) (by assumption) ?_
  case e10 => (simp only [List.getElem?_toArray, List.getElem?_cons_succ, List.getElem?_cons_zero]; rfl)
  case k10 => kernel_rfl
  case l10 => kernel_rfl
  case m10 => kernel_rfl
  case p10 => exact fun _ _ _ h => h
  case g10 => rfl
  case y10 => (intro W hSw; (try dsimp only at hSw); go_simp; try with_reducible rfl)
  try simp only [Act.put, List.setIfInBounds_toArray, List.set_cons_zero, List.set_cons_succ]
  refine wpAnyH_take (i := 11) (oi := ?o11) (v := ?v11) ?e11 ?k11 ?l11 ?m11 ?p11 (Or.inl ⟨?g11, ?y11⟩) (by assumption) ?_
  case e11 => (simp only [List.getElem?_toArray, List.getElem?_cons_succ, List.getElem?_cons_zero]; rfl)
  case k11 => kernel_rfl
  case l11 => kernel_rfl
  case m11 => kernel_rfl
  case p11 => exact fun _ _ _ h => h
  case g11 => rfl
  case y11 => (intro W hSw; (try dsimp only at hSw); go_simp; try with_reducible rfl)
  try simp only [Act.put, List.setIfInBounds_toArray, List.set_cons_zero, List.set_cons_succ]
  refine wpAnyH_take (i := 12) (oi := ?o12) (v := ?v12) ?e12 ?k12 ?l12 ?m12 ?p12 (Or.inl ⟨?g12, ?y12⟩) (by assumption) ?_
  case e12 => (simp only [List.getElem?_toArray, List.getElem?_cons_succ, List.getElem?_cons_zero]; rfl)
  case k12 => kernel_rfl
  case l12 => kernel_rfl
  case m12 => kernel_rfl
  case p12 => exact fun _ _ _ h => h
  case g12 => rfl
  case y12 => (intro W hSw; (try dsimp only at hSw); go_simp; try with_reducible rfl)
  try simp only [Act.put, List.setIfInBounds_toArray, List.set_cons_zero, List.set_cons_succ]
  refine wpAnyH_take (i := 13) (oi := ?o13) (v := ?v13) ?e13 ?k13 ?l13 ?m13 ?p13 (Or.inl ⟨?g13, ?y13⟩) (by assumption) ?_
  case e13 => (simp only [List.getElem?_toArray, List.getElem?_cons_succ, List.getElem?_cons_zero]; rfl)
  case k13 => kernel_rfl
  case l13 => kernel_rfl
  case m13 => kernel_rfl
  case p13 => exact fun _ _ _ h => h
  case g13 => rfl
  case y13 => (intro W hSw; (try dsimp only at hSw); go_simp; try with_reducible rfl)
  try simp only [Act.put, List.setIfInBounds_toArray, List.set_cons_zero, List.set_cons_succ]
  refine wpAnyH_take (i := 15) (oi := ?o15) (v := ?v15) ?e15 ?k15 ?l15 ?m15 ?p15 ?y15 (by assumption) ?_
  case e15 => (simp only [List.getElem?_toArray, List.getElem?_cons_succ, List.getElem?_cons_zero]; rfl)
  case k15 => kernel_rfl
  case l15 => kernel_rfl
  case m15 => kernel_rfl
  case y15 =>
    refine' yieldsIf_load_mid (by rfl) _ _ rfl _ _ rfl cs _ ?S15 ?u15 ?d15 ?i15
    case S15 => (intro W hSw; (try dsimp only at hSw); exact hSw.2.2.1)
    case u15 => exact hund
    case d15 => rfl
    case i15 => exact hinfo
  case p15 => exact fun _ _ _ h => h
  try simp only [Act.put, List.setIfInBounds_toArray, List.set_cons_zero, List.set_cons_succ]
  refine wpAnyH_ready (rs := [14]) (by kernel_rfl) (by simp) ?_
  refine AllReadyH.cons (o := ?o14) ?e14 ?f14 ?m14
  case e14 => (simp only [List.getElem?_toArray, List.getElem?_cons_succ, List.getElem?_cons_zero]; rfl)
  case m14 => exact AllReadyH.nil
  intro K hK
  go_simp
  go_at_call 19
  refine (Q1.out _).mono ?_
  rintro v w' ⟨rfl, hb⟩
  (try go_simp)
  refine hK.out _ _ ?s14 (fun hHeld => ?_)
  case s14 => exact keepA (by assumption) hb
  clear hK K
  try simp only [Act.put, List.setIfInBounds_toArray, List.set_cons_zero, List.set_cons_succ]
  refine wpAnyH_ready (rs := [16]) (by kernel_rfl) (by simp) ?_
  refine AllReadyH.cons (o := ?o16) ?e16 ?f16 ?m16
  case e16 => (simp only [List.getElem?_toArray, List.getElem?_cons_succ, List.getElem?_cons_zero]; rfl)
  case m16 => exact AllReadyH.nil
  intro K hK
  go_simp
  go_at_call 35
  refine (Q2.out _).mono ?_
  rintro v w' ⟨rfl, hb⟩
  (try go_simp)
  refine hK.out _ _ ?s16 (fun hHeld => ?_)
  case s16 => exact keepA (by assumption) hb
  clear hK K
  try simp only [Act.put, List.setIfInBounds_toArray, List.set_cons_zero, List.set_cons_succ]
  refine wpAnyH_take (i := 17) (oi := ?o17) (v := ?v17) ?e17 ?k17 ?l17 ?m17 ?p17 (Or.inl ⟨?g17, ?y17⟩) (by assumption) ?_
  case e17 => (simp only [List.getElem?_toArray, List.getElem?_cons_succ, List.getElem?_cons_zero]; rfl)
  case k17 => kernel_rfl
  case l17 => kernel_rfl
  case m17 => kernel_rfl
  case p17 => exact fun _ _ _ h => h
  case g17 => rfl
  case y17 => (intro W hSw; (try dsimp only at hSw); go_simp; try with_reducible rfl)
  try simp only [Act.put, List.setIfInBounds_toArray, List.set_cons_zero, List.set_cons_succ]
  refine wpAnyH_take (i := 18) (oi := ?o18) (v := ?v18) ?e18 ?k18 ?l18 ?m18 ?p18 (Or.inl ⟨?g18, ?y18⟩) (by assumption) ?_
  case e18 => (simp only [List.getElem?_toArray, List.getElem?_cons_succ, List.getElem?_cons_zero]; rfl)
  case k18 => kernel_rfl
  case l18 => kernel_rfl
  case m18 => kernel_rfl
  case p18 => exact fun _ _ _ h => h
  case g18 => rfl
  case y18 => (intro W hSw; (try dsimp only at hSw); go_simp; try with_reducible rfl)
  try simp only [Act.put, List.setIfInBounds_toArray, List.set_cons_zero, List.set_cons_succ]
  refine wpAnyH_take (i := 19) (oi := ?o19) (v := ?v19) ?e19 ?k19 ?l19 ?m19 ?p19 (Or.inl ⟨?g19, ?y19⟩) (by assumption) ?_
  case e19 => (simp only [List.getElem?_toArray, List.getElem?_cons_succ, List.getElem?_cons_zero]; rfl)
  case k19 => kernel_rfl
  case l19 => kernel_rfl
  case m19 => kernel_rfl
  case p19 => exact fun _ _ _ h => h
  case g19 => rfl
  case y19 => (intro W hSw; (try dsimp only at hSw); go_simp; try with_reducible rfl)
  try simp only [Act.put, List.setIfInBounds_toArray, List.set_cons_zero, List.set_cons_succ]
  refine wpAnyH_take (i := 20) (oi := ?o20) (v := ?v20) ?e20 ?k20 ?l20 ?m20 ?p20 (Or.inl ⟨?g20, ?y20⟩) (by assumption) ?_
  case e20 => (simp only [List.getElem?_toArray, List.getElem?_cons_succ, List.getElem?_cons_zero]; rfl)
  case k20 => kernel_rfl
  case l20 => kernel_rfl
  case m20 => kernel_rfl
  case p20 => exact fun _ _ _ h => h
  case g20 => rfl
  case y20 => (intro W hSw; (try dsimp only at hSw); go_simp; try with_reducible rfl)
  try simp only [Act.put, List.setIfInBounds_toArray, List.set_cons_zero, List.set_cons_succ]
  refine wpAnyH_take (i := 21) (oi := ?o21) (v := ?v21) ?e21 ?k21 ?l21 ?m21 ?p21 (Or.inl ⟨?g21, ?y21⟩) (by assumption) ?_
  case e21 => (simp only [List.getElem?_toArray, List.getElem?_cons_succ, List.getElem?_cons_zero]; rfl)
  case k21 => kernel_rfl
  case l21 => kernel_rfl
  case m21 => kernel_rfl
  case p21 => exact fun _ _ _ h => h
  case g21 => rfl
  case y21 => (intro W hSw; (try dsimp only at hSw); go_simp; try with_reducible rfl)
  try simp only [Act.put, List.setIfInBounds_toArray, List.set_cons_zero, List.set_cons_succ]
  refine wpAnyH_take (i := 24) (oi := ?o24) (v := ?v24) ?e24 ?k24 ?l24 ?m24 ?p24 (Or.inl ⟨?g24, ?y24⟩) (by assumption) ?_
  case e24 => (simp only [List.getElem?_toArray, List.getElem?_cons_succ, List.getElem?_cons_zero]; rfl)
  case k24 => kernel_rfl
  case l24 => kernel_rfl
  case m24 => kernel_rfl
  case p24 => exact fun _ _ _ h => h
  case g24 => rfl
  case y24 => (intro W hSw; (try dsimp only at hSw); go_simp; try with_reducible rfl)
  try simp only [Act.put, List.setIfInBounds_toArray, List.set_cons_zero, List.set_cons_succ]
  refine wpAnyH_take (i := 23) (oi := ?o23) (v := ?v23) ?e23 ?k23 ?l23 ?m23 ?p23 ?y23 (by assumption) ?_
  case e23 => (simp only [List.getElem?_toArray, List.getElem?_cons_succ, List.getElem?_cons_zero]; rfl)
  case k23 => kernel_rfl
  case l23 => kernel_rfl
  case m23 => kernel_rfl
  case y23 =>
    refine' yieldsIf_load_mid (by rfl) _ _ rfl _ _ rfl cs _ ?S23 ?u23 ?d23 ?i23
    case S23 => (intro W hSw; (try dsimp only at hSw); exact hSw.2.2.1)
    case u23 => exact hund
    case d23 => rfl
    case i23 => exact hinfo
  case p23 => exact fun _ _ _ h => h
  try simp only [Act.put, List.setIfInBounds_toArray, List.set_cons_zero, List.set_cons_succ]
  refine wpAnyH_ready (rs := [22]) (by kernel_rfl) (by simp) ?_
  refine AllReadyH.cons (o := ?o22) ?e22 ?f22 ?m22
  case e22 => (simp only [List.getElem?_toArray, List.getElem?_cons_succ, List.getElem?_cons_zero]; rfl)
  case m22 => exact AllReadyH.nil
  intro K hK
  go_simp
  go_at_call 14
  refine (Q3.out _).mono ?_
  rintro v w' ⟨rfl, hb⟩
  (try go_simp)
  refine hK.out _ _ ?s22 (fun hHeld => ?_)
  case s22 => exact keepA (by assumption) hb
  clear hK K
  try simp only [Act.put, List.setIfInBounds_toArray, List.set_cons_zero, List.set_cons_succ]
  refine wpAnyH_ready (rs := [25]) (by kernel_rfl) (by simp) ?_
  refine AllReadyH.cons (o := ?o25) ?e25 ?f25 ?m25
  case e25 => (simp only [List.getElem?_toArray, List.getElem?_cons_succ, List.getElem?_cons_zero]; rfl)
  case m25 => exact AllReadyH.nil
  intro K hK
  go_simp
  go_at_call 36
  refine (Q4.out _).mono ?_
  rintro v w' ⟨rfl, hb⟩
  (try go_simp)
  refine hK.out _ _ ?s25 (fun hHeld => ?_)
  case s25 => exact keepA (by assumption) hb
  clear hK K
  try simp only [Act.put, List.setIfInBounds_toArray, List.set_cons_zero, List.set_cons_succ]
  refine wpAnyH_take (i := 26) (oi := ?o26) (v := ?v26) ?e26 ?k26 ?l26 ?m26 ?p26 (Or.inl ⟨?g26, ?y26⟩) (by assumption) ?_
  case e26 => (simp only [List.getElem?_toArray, List.getElem?_cons_succ, List.getElem?_cons_zero]; rfl)
  case k26 => kernel_rfl
  case l26 => kernel_rfl
  case m26 => kernel_rfl
  case p26 => exact fun _ _ _ h => h
  case g26 => rfl
  case y26 => (intro W hSw; (try dsimp only at hSw); go_simp; try with_reducible rfl)
  try simp only [Act.put, List.setIfInBounds_toArray, List.set_cons_zero, List.set_cons_succ]
  refine wpAnyH_take (i := 27) (oi := ?o27) (v := ?v27) ?e27 ?k27 ?l27 ?m27 ?p27 (Or.inl ⟨?g27, ?y27⟩) (by assumption) ?_
  case e27 => (simp only [List.getElem?_toArray, List.getElem?_cons_succ, List.getElem?_cons_zero]; rfl)
  case k27 => kernel_rfl
  case l27 => kernel_rfl
  case m27 => kernel_rfl
  case p27 => exact fun _ _ _ h => h
  case g27 => rfl
  case y27 => (intro W hSw; (try dsimp only at hSw); go_simp; try with_reducible rfl)
  try simp only [Act.put, List.setIfInBounds_toArray, List.set_cons_zero, List.set_cons_succ]
  refine wpAnyH_take (i := 28) (oi := ?o28) (v := ?v28) ?e28 ?k28 ?l28 ?m28 ?p28 (Or.inl ⟨?g28, ?y28⟩) (by assumption) ?_
  case e28 => (simp only [List.getElem?_toArray, List.getElem?_cons_succ, List.getElem?_cons_zero]; rfl)
  case k28 => kernel_rfl
  case l28 => kernel_rfl
  case m28 => kernel_rfl
  case p28 => exact fun _ _ _ h => h
  case g28 => rfl
  case y28 => (intro W hSw; (try dsimp only at hSw); go_simp; try with_reducible rfl)
  try simp only [Act.put, List.setIfInBounds_toArray, List.set_cons_zero, List.set_cons_succ]
  refine wpAnyH_done (by kernel_rfl) ?_ _
  refine NoPanic.normal ?_
  obtain ⟨_, _, _, _, _, _, i9⟩ := hHeld
  go_wp2
  go_ret
  exact ⟨rfl, i9⟩
theorem asks_walk (F S : B64) (n : Int) (h1 : -9223372036854775808 ≤ n) (h2 : n ≤ 9223372036854775807) {w : World} :
    Calls Try.prog 9 #[.agg #[.int .u64 (iv F), .int .u64 (iv S)], .int .i64 n] w fun v w' => v = .returned (.bool true) ∧ Below w.heap.size w w' := by
  have l0 := rowOf_len F S
  have l1 := withR_len (rowOf F S) n l0
  have l2 := withoutR_len (rowOf F S) n l0
  refine asks_run F S n (wE F S n) (wF F S n) (wS F S n) (rowOf F S) (withR (rowOf F S) n) (woF F n) (woS S n) (withoutR (rowOf F S) n) (rightB F S) (hasB F S n) l0 l1
    (Lib.hid fun w => row_any F S w) (Lib.hid fun w => with_any F S n w) (Lib.hid fun w => ?_) (Lib.hid fun w => ?_) (Lib.hid fun w => without_any F S n w) (Lib.hid fun w => rwithout_any _ l0 n w) (Lib.hid fun w => ?_)
    (Lib.hid fun w => right_any F S w) (Lib.hid fun w => ?_) (Lib.hid fun w => has_any F S n w) (Lib.hid fun w => ?_) w
  · have := rwith_any (rowOf F S) l0 n w; rwa [withE_row] at this
  · have := like_any (wF F S n) (wS F S n) _ l1 w; rwa [with_like] at this
  · have := like_any (woF F n) (woS S n) _ l2 w; rwa [without_like] at this
  · have := rright_any (rowOf F S) l0 w; rwa [right_row] at this
  · have := rhas_any (rowOf F S) l0 n w; rwa [has_row] at this
end Go.Proofs.Ytieloocmkgficaa
