/-
  The document's Decode, each case of its walk.
-/
import Derived.Test.YtieloocmkgficaaDecR
namespace Go.Proofs.Ytieloocmkgficaa
open Go.RowKit
set_option linter.unusedVariables false
set_option linter.unusedSimpArgs false
theorem results_cell40_2 {fn : Func} {p u v : Tmp} {a : Act} {w : World} {R : Ending → World → Prop} {g : Nat} {r : List Bool} (h : fn.results = #[.cell p 40, .tmp u, .tmp v]) (hr : r.length = 129) (hp : a.tmps.getD p undef = .pointer (some ⟨g, 0, none⟩))
    (hg : Blk w g 40 (rowA r)) (hd : a.defers = []) (hR : R (.returned (.tuple #[.agg (rowA r), a.tmps.getD u undef, a.tmps.getD v undef])) w) : bodyPost Try.prog fn R .ret a w := by
  refine bodyPost_ret (v := .tuple #[.agg (rowA r), a.tmps.getD u undef, a.tmps.getD v undef]) ?_ hd hR
  rw [results_cell_tmp2 h, hp]
  simp [asAddr, Result.andThen, run_loadVar_row w g 40 40 (rowA r) (0, 0) _ hg Try.underlying40 rfl (by rw [info40, rowA_size, hr])]
/-- The kind of writing that the document reads by. -/
def fE (enc : Int) : Int := if enc = 5 then 1 else fOf enc
theorem rread_any (enc : Int) (g : Nat) (b : ByteArray) (at0 : Nat) (fr : Int) (ob : Nat) (r : List Bool) (X e : Int) (z : Nat) (hs : b.size ≤ 9223372036854775807) (h0 : at0 ≤ b.size) (hr : r.length = 129) (hfr : fr = (ob : Int) + 1) (ho : ob ≤ 64)
    (h : readV (fE enc) b at0 = (X, e, z)) (w : World) (hX : Blk w g 40 (rowA r)) :
    Calls Try.prog 53 #[.pointer (some ⟨g, 0, none⟩), .int .i64 enc, .string b, .int .i64 (at0 : Int), .int .i64 fr] w (ReadPost w g r ob X e z) := by
  unfold readV fE at h
  by_cases h5 : enc = 5
  · subst h5
    rw [if_pos rfl] at h
    exact rread_eight g b at0 fr ob r X e z hs h0 hr hfr ho h w hX
  · rw [if_neg h5] at h
    have hm : manyV (fOf enc) = 16 := if_neg (fOf_ne enc)
    rw [hm] at h
    exact rread_let enc h5 g b at0 fr ob r X e z hs h0 hr hfr ho h w hX
theorem rread_0 (enc : Int) (g : Nat) (b : ByteArray) (r : List Bool) (X e : Int) (z : Nat) (hs : b.size ≤ 9223372036854775807) (hr : r.length = 129)
    (h : readV (fE enc) b 0 = (X, e, z)) (w : World) (hX : Blk w g 40 (rowA r)) :
    Calls Try.prog 53 #[.pointer (some ⟨g, 0, none⟩), .int .i64 enc, .string b, .int .i64 0, .int .i64 1] w (ReadPost w g r 0 X e z) :=
  rread_any enc g b 0 1 0 r X e z hs (Nat.zero_le _) hr (by omega) (by omega) h w hX
set_option maxRecDepth 100000 in
set_option maxHeartbeats 2000000 in
theorem rdec_no (enc : Int) (b : ByteArray) (hs : b.size ≤ 9223372036854775807) (hk : knownB enc = false) (w : World) :
    Calls Try.prog 29 #[.int .i64 enc, .string b] w fun v w' => v = .returned (.tuple #[.agg (rowA zeros), .int .i64 1, .int .i64 0]) ∧ Below w.heap.size w w' := by
  have hz := zero40
  have HS0 : Hid ((Try.prog.info? 40).map (·.size) = some (rowA zeros).size) := by show _ = _; rw [info40, rowA_size, zeros_len]
  have H10 : Hid ((rowA zeros).all (·.oneCell') = true) := rowA_one zeros
  have QK : Hid (∀ w, Calls Try.prog 49 #[.int .i64 enc] w fun e w' => e = .returned (.bool false) ∧ w = w') := Lib.hid fun w => by
    have := known_any enc w; rwa [hk] at this
  clear hk
  have HX : Hid (Blk (w.alloc (.cells (rowA zeros) 40)) w.heap.size 40 (rowA zeros)) := Blk.new w 40 _
  go_enter Try.func29, Try.ntmps29
  go_wp2_with (first
    | (go_at_call 49; refine (QK.out _).mono ?_; rintro e w' ⟨rfl, rfl⟩)
    | (refine wpList_build40 rfl rfl ?_)
    | (refine wpList_store_row rfl 40 (.tmp 4) (.tmp 19) rfl _ (rowA zeros) rfl rfl 40 (rowA zeros) HX.out HS0.out rfl H10.out ?_))
  exact results_cell40_2 (r := zeros) rfl zeros_len rfl (Blk.setRow (r := zeros) HX.out) rfl ⟨rfl, below_setRow ((Below.refl _ _).alloc (Nat.le_refl _) _) (Nat.le_refl _)⟩
set_option maxRecDepth 100000 in
set_option maxHeartbeats 2000000 in
theorem rdec_err1 (enc : Int) (b : ByteArray) (hs : b.size ≤ 9223372036854775807) (hk : knownB enc = true) (x e : Int) (z : Nat) (hr : readV (fE enc) b 0 = (x, e, z)) (he : (e != 0) = true) (w : World) :
    Calls Try.prog 29 #[.int .i64 enc, .string b] w fun v w' => v = .returned (.tuple #[.agg (rowA zeros), .int .i64 e, .int .i64 (z : Int)]) ∧ Below w.heap.size w w' := by
  have hz := zero40
  have HS0 : Hid ((Try.prog.info? 40).map (·.size) = some (rowA zeros).size) := by show _ = _; rw [info40, rowA_size, zeros_len]
  have H10 : Hid ((rowA zeros).all (·.oneCell') = true) := rowA_one zeros
  have QK : Hid (∀ w, Calls Try.prog 49 #[.int .i64 enc] w fun e w' => e = .returned (.bool true) ∧ w = w') := Lib.hid fun w => by
    have := known_any enc w; rwa [hk] at this
  clear hk
  have HX : Hid (Blk ((w.alloc (.cells (rowA zeros) 40)).alloc (.cells (rowA zeros) 40)) w.heap.size 40 (rowA zeros)) := (Blk.new w 40 _).alloc _
  have HY : Hid (Blk ((w.alloc (.cells (rowA zeros) 40)).alloc (.cells (rowA zeros) 40)) (w.heap.size + 1) 40 (rowA zeros)) := Blk.new2 _ _ _ _
  have QR : Hid (∀ W, Blk W (w.heap.size + 1) 40 (rowA zeros) → Calls Try.prog 53 #[.pointer (some ⟨w.heap.size + 1, 0, none⟩), .int .i64 enc, .string b, .int .i64 0, .int .i64 1] W (ReadPost W (w.heap.size + 1) zeros 0 x e z)) :=
    Lib.hid fun W hX => rread_0 enc (w.heap.size + 1) b zeros x e z hs zeros_len hr W hX
  clear hr
  go_enter Try.func29, Try.ntmps29
  go_wp2_with (first
    | (go_at_call 49; refine (QK.out _).mono ?_; rintro v w' ⟨rfl, rfl⟩)
    | (go_at_call_of 53 (Value.int IntKind.i64 1); refine (QR.out _ HY.out).mono ?_; rintro v w1 ⟨rfl, hG, q, hq, hB, hE⟩; have HX1 := Lib.hid (HX.out.grown hG (by intro h; injection h with h; omega)); have HQ := Lib.hid hq; have HB1 := Lib.hid hB; have HE1 := Lib.hid hE; have hL1 := below_only (below2 w (.cells (rowA zeros) 40) (.cells (rowA zeros) 40)) (by simp; omega) hG (by omega); have hs1 : w.heap.size < w1.heap.size := HX1.out.lt; have hs1b : w.heap.size + 1 < w1.heap.size := Blk.lt HB1.out; clear hG hq hB hE)
    | (refine wpList_build40 rfl rfl ?_)
    | (refine wpList_store_row rfl 40 (.tmp 4) (.tmp 28) rfl _ (rowA zeros) rfl rfl 40 (rowA zeros) HX1.out HS0.out rfl H10.out ?_))
  exact results_cell40_2 (r := zeros) rfl zeros_len rfl (Blk.setRow (r := zeros) HX1.out) rfl ⟨rfl, below_setRow hL1 (Nat.le_refl _)⟩
set_option maxRecDepth 100000 in
set_option maxHeartbeats 2000000 in
theorem rdec_one (enc : Int) (b : ByteArray) (hs : b.size ≤ 9223372036854775807) (hk : knownB enc = true) (x : Int) (z : Nat) (hr : readV (fE enc) b 0 = (x, 0, z)) (q1 : List Bool) (hf : fill zeros 0 64 x.toNat = q1) (hv : q1.getD 1 false = false) (w : World) :
    Calls Try.prog 29 #[.int .i64 enc, .string b] w fun v w' => v = .returned (.tuple #[.agg (rowA q1), .int .i64 0, .int .i64 (z : Int)]) ∧ Below w.heap.size w w' := by
  have hz := zero40
  have HS0 : Hid ((Try.prog.info? 40).map (·.size) = some (rowA zeros).size) := by show _ = _; rw [info40, rowA_size, zeros_len]
  have H10 : Hid ((rowA zeros).all (·.oneCell') = true) := rowA_one zeros
  have QK : Hid (∀ w, Calls Try.prog 49 #[.int .i64 enc] w fun e w' => e = .returned (.bool true) ∧ w = w') := Lib.hid fun w => by
    have := known_any enc w; rwa [hk] at this
  clear hk
  have HX : Hid (Blk ((w.alloc (.cells (rowA zeros) 40)).alloc (.cells (rowA zeros) 40)) w.heap.size 40 (rowA zeros)) := (Blk.new w 40 _).alloc _
  have HY : Hid (Blk ((w.alloc (.cells (rowA zeros) 40)).alloc (.cells (rowA zeros) 40)) (w.heap.size + 1) 40 (rowA zeros)) := Blk.new2 _ _ _ _
  have QR : Hid (∀ W, Blk W (w.heap.size + 1) 40 (rowA zeros) → Calls Try.prog 53 #[.pointer (some ⟨w.heap.size + 1, 0, none⟩), .int .i64 enc, .string b, .int .i64 0, .int .i64 1] W (ReadPost W (w.heap.size + 1) zeros 0 x 0 z)) :=
    Lib.hid fun W hX => rread_0 enc (w.heap.size + 1) b zeros x 0 z hs zeros_len hr W hX
  clear hr
  have HF : Hid (fill zeros 0 64 x.toNat = q1) := hf
  have HL1 : Hid (q1.length = 129) := by show _ = _; rw [← HF.out]; exact fill_len _ _ _ _
  have HG1 : Hid ((rowA q1)[1]? = some (.bool false)) := by show _ = _; rw [rowA_get q1 1 (by rw [HL1.out]; omega), hv]
  have HSq : Hid ((Try.prog.info? 40).map (·.size) = some (rowA q1).size) := by show _ = _; rw [info40, rowA_size, HL1.out]
  have HZq : Hid ((rowA zeros).size = (rowA q1).size) := by show _ = _; rw [rowA_size, rowA_size, HL1.out, zeros_len]
  have H1q : Hid ((rowA q1).all (·.oneCell') = true) := rowA_one q1
  clear hf hv
  go_enter Try.func29, Try.ntmps29
  go_wp2_with (first
    | (go_at_call 49; refine (QK.out _).mono ?_; rintro v w' ⟨rfl, rfl⟩)
    | (go_at_call_of 53 (Value.int IntKind.i64 1); refine (QR.out _ HY.out).mono ?_; rintro v w1 ⟨rfl, hG, q, hq, hB, hE⟩; have HX1 := Lib.hid (HX.out.grown hG (by intro h; injection h with h; omega)); have HQ := Lib.hid hq; have HB1 := Lib.hid hB; have HE1 := Lib.hid hE; have hL1 := below_only (below2 w (.cells (rowA zeros) 40) (.cells (rowA zeros) 40)) (by simp; omega) hG (by omega); have hs1 : w.heap.size < w1.heap.size := HX1.out.lt; have hs1b : w.heap.size + 1 < w1.heap.size := Blk.lt HB1.out; clear hG hq hB hE; have hqe := HE1.out rfl; rw [HF.out] at hqe; rw [hqe] at HB1; clear hqe HE1 HQ; have c1 := (Blk.cell HB1.out 1).trans HG1.out)
    | (refine wpList_load_row rfl 40 (.tmp 8) rfl _ rfl 40 (rowA q1) (0, 0) _ HB1.out Try.underlying40 rfl HSq.out ?_)
    | (refine wpList_store_row rfl 40 (.tmp 4) (.tmp 34) rfl _ (rowA q1) rfl rfl 40 (rowA zeros) HX1.out HSq.out HZq.out H1q.out ?_))
  exact results_cell40_2 (r := q1) rfl HL1.out rfl (Blk.setRow (r := q1) HX1.out) rfl ⟨rfl, below_setRow hL1 (Nat.le_refl _)⟩
set_option maxRecDepth 100000 in
set_option maxHeartbeats 2000000 in
theorem rdec_err2 (enc : Int) (b : ByteArray) (hs : b.size ≤ 9223372036854775807) (hk : knownB enc = true) (x : Int) (z : Nat) (hr : readV (fE enc) b 0 = (x, 0, z)) (q1 : List Bool) (hf : fill zeros 0 64 x.toNat = q1) (hv : q1.getD 1 false = true) (hz1 : z ≤ b.size) (y e : Int) (u : Nat) (hr2 : readV (fE enc) b z = (y, e, u)) (he : (e != 0) = true) (w : World) :
    Calls Try.prog 29 #[.int .i64 enc, .string b] w fun v w' => v = .returned (.tuple #[.agg (rowA zeros), .int .i64 e, .int .i64 (u : Int)]) ∧ Below w.heap.size w w' := by
  have hz := zero40
  have HS0 : Hid ((Try.prog.info? 40).map (·.size) = some (rowA zeros).size) := by show _ = _; rw [info40, rowA_size, zeros_len]
  have H10 : Hid ((rowA zeros).all (·.oneCell') = true) := rowA_one zeros
  have QK : Hid (∀ w, Calls Try.prog 49 #[.int .i64 enc] w fun e w' => e = .returned (.bool true) ∧ w = w') := Lib.hid fun w => by
    have := known_any enc w; rwa [hk] at this
  clear hk
  have HX : Hid (Blk ((w.alloc (.cells (rowA zeros) 40)).alloc (.cells (rowA zeros) 40)) w.heap.size 40 (rowA zeros)) := (Blk.new w 40 _).alloc _
  have HY : Hid (Blk ((w.alloc (.cells (rowA zeros) 40)).alloc (.cells (rowA zeros) 40)) (w.heap.size + 1) 40 (rowA zeros)) := Blk.new2 _ _ _ _
  have QR : Hid (∀ W, Blk W (w.heap.size + 1) 40 (rowA zeros) → Calls Try.prog 53 #[.pointer (some ⟨w.heap.size + 1, 0, none⟩), .int .i64 enc, .string b, .int .i64 0, .int .i64 1] W (ReadPost W (w.heap.size + 1) zeros 0 x 0 z)) :=
    Lib.hid fun W hX => rread_0 enc (w.heap.size + 1) b zeros x 0 z hs zeros_len hr W hX
  clear hr
  have HF : Hid (fill zeros 0 64 x.toNat = q1) := hf
  have HL1 : Hid (q1.length = 129) := by show _ = _; rw [← HF.out]; exact fill_len _ _ _ _
  have HG1 : Hid ((rowA q1)[1]? = some (.bool true)) := by show _ = _; rw [rowA_get q1 1 (by rw [HL1.out]; omega), hv]
  have HSq : Hid ((Try.prog.info? 40).map (·.size) = some (rowA q1).size) := by show _ = _; rw [info40, rowA_size, HL1.out]
  have HZq : Hid ((rowA zeros).size = (rowA q1).size) := by show _ = _; rw [rowA_size, rowA_size, HL1.out, zeros_len]
  have H1q : Hid ((rowA q1).all (·.oneCell') = true) := rowA_one q1
  clear hf hv
  have QS : Hid (∀ W, Blk W (w.heap.size + 1) 40 (rowA q1) → Calls Try.prog 53 #[.pointer (some ⟨w.heap.size + 1, 0, none⟩), .int .i64 enc, .string b, .int .i64 (z : Int), .int .i64 65] W (ReadPost W (w.heap.size + 1) q1 64 y e u)) :=
    Lib.hid fun W hX => rread_any enc (w.heap.size + 1) b z 65 64 q1 y e u hs hz1 HL1.out (by omega) (by omega) hr2 W hX
  clear hr2 hz1
  go_enter Try.func29, Try.ntmps29
  go_wp2_with (first
    | (go_at_call 49; refine (QK.out _).mono ?_; rintro v w' ⟨rfl, rfl⟩)
    | (go_at_call_of 53 (Value.int IntKind.i64 1); refine (QR.out _ HY.out).mono ?_; rintro v w1 ⟨rfl, hG, q, hq, hB, hE⟩; have HX1 := Lib.hid (HX.out.grown hG (by intro h; injection h with h; omega)); have HQ := Lib.hid hq; have HB1 := Lib.hid hB; have HE1 := Lib.hid hE; have hL1 := below_only (below2 w (.cells (rowA zeros) 40) (.cells (rowA zeros) 40)) (by simp; omega) hG (by omega); have hs1 : w.heap.size < w1.heap.size := HX1.out.lt; have hs1b : w.heap.size + 1 < w1.heap.size := Blk.lt HB1.out; clear hG hq hB hE; have hqe := HE1.out rfl; rw [HF.out] at hqe; rw [hqe] at HB1; clear hqe HE1 HQ; have c1 := (Blk.cell HB1.out 1).trans HG1.out)
    | (go_at_call 53; refine (QS.out _ HB1.out).mono ?_; rintro v w2 ⟨rfl, hG, q, hq, hB, hE⟩; have HX2 := Lib.hid (Blk.grown HX1.out hG (by intro h; injection h with h; omega)); have HQ := Lib.hid hq; have HB2 := Lib.hid hB; have HE2 := Lib.hid hE; have hL2 := below_only hL1 (by omega) hG (by omega); have hs2 : w.heap.size < w2.heap.size := Blk.lt HX2.out; have hs2b : w.heap.size + 1 < w2.heap.size := Blk.lt HB2.out; clear hG hq hB hE)
    | (refine wpList_build40 rfl rfl ?_)
    | (refine wpList_store_row rfl 40 (.tmp 4) (.tmp 45) rfl _ (rowA zeros) rfl rfl 40 (rowA zeros) HX2.out HS0.out rfl H10.out ?_))
  exact results_cell40_2 (r := zeros) rfl zeros_len rfl (Blk.setRow (r := zeros) HX2.out) rfl ⟨rfl, below_setRow hL2 (Nat.le_refl _)⟩
set_option maxRecDepth 100000 in
set_option maxHeartbeats 2000000 in
theorem rdec_bad (enc : Int) (b : ByteArray) (hs : b.size ≤ 9223372036854775807) (hk : knownB enc = true) (x : Int) (z : Nat) (hr : readV (fE enc) b 0 = (x, 0, z)) (q1 : List Bool) (hf : fill zeros 0 64 x.toNat = q1) (hv : q1.getD 1 false = true) (hz1 : z ≤ b.size) (y : Int) (u : Nat) (hr2 : readV (fE enc) b z = (y, 0, u)) (q2 : List Bool) (hf2 : fill q1 64 64 y.toNat = q2) (v65 sm : Bool) (h65 : q2.getD 65 false = v65) (hsm : anyR q2 63 = sm) (hbad : v65 = true ∨ v65 = false ∧ sm = false) (w : World) :
    Calls Try.prog 29 #[.int .i64 enc, .string b] w fun v w' => v = .returned (.tuple #[.agg (rowA zeros), .int .i64 20, .int .i64 (z : Int)]) ∧ Below w.heap.size w w' := by
  have hz := zero40
  have HS0 : Hid ((Try.prog.info? 40).map (·.size) = some (rowA zeros).size) := by show _ = _; rw [info40, rowA_size, zeros_len]
  have H10 : Hid ((rowA zeros).all (·.oneCell') = true) := rowA_one zeros
  have QK : Hid (∀ w, Calls Try.prog 49 #[.int .i64 enc] w fun e w' => e = .returned (.bool true) ∧ w = w') := Lib.hid fun w => by
    have := known_any enc w; rwa [hk] at this
  clear hk
  have HX : Hid (Blk ((w.alloc (.cells (rowA zeros) 40)).alloc (.cells (rowA zeros) 40)) w.heap.size 40 (rowA zeros)) := (Blk.new w 40 _).alloc _
  have HY : Hid (Blk ((w.alloc (.cells (rowA zeros) 40)).alloc (.cells (rowA zeros) 40)) (w.heap.size + 1) 40 (rowA zeros)) := Blk.new2 _ _ _ _
  have QR : Hid (∀ W, Blk W (w.heap.size + 1) 40 (rowA zeros) → Calls Try.prog 53 #[.pointer (some ⟨w.heap.size + 1, 0, none⟩), .int .i64 enc, .string b, .int .i64 0, .int .i64 1] W (ReadPost W (w.heap.size + 1) zeros 0 x 0 z)) :=
    Lib.hid fun W hX => rread_0 enc (w.heap.size + 1) b zeros x 0 z hs zeros_len hr W hX
  clear hr
  have HF : Hid (fill zeros 0 64 x.toNat = q1) := hf
  have HL1 : Hid (q1.length = 129) := by show _ = _; rw [← HF.out]; exact fill_len _ _ _ _
  have HG1 : Hid ((rowA q1)[1]? = some (.bool true)) := by show _ = _; rw [rowA_get q1 1 (by rw [HL1.out]; omega), hv]
  have HSq : Hid ((Try.prog.info? 40).map (·.size) = some (rowA q1).size) := by show _ = _; rw [info40, rowA_size, HL1.out]
  have HZq : Hid ((rowA zeros).size = (rowA q1).size) := by show _ = _; rw [rowA_size, rowA_size, HL1.out, zeros_len]
  have H1q : Hid ((rowA q1).all (·.oneCell') = true) := rowA_one q1
  clear hf hv
  have QS : Hid (∀ W, Blk W (w.heap.size + 1) 40 (rowA q1) → Calls Try.prog 53 #[.pointer (some ⟨w.heap.size + 1, 0, none⟩), .int .i64 enc, .string b, .int .i64 (z : Int), .int .i64 65] W (ReadPost W (w.heap.size + 1) q1 64 y 0 u)) :=
    Lib.hid fun W hX => rread_any enc (w.heap.size + 1) b z 65 64 q1 y 0 u hs hz1 HL1.out (by omega) (by omega) hr2 W hX
  clear hr2 hz1
  have HF2 : Hid (fill q1 64 64 y.toNat = q2) := hf2
  have HL2 : Hid (q2.length = 129) := by show _ = _; rw [← HF2.out]; exact fill_len _ _ _ _
  have HG2 : Hid (∀ k, k < 129 → (rowA q2)[k]? = some (.bool (q2.getD k false))) := by
    show ∀ k, _
    intro k hk; exact rowA_get q2 k (by rw [HL2.out]; omega)
  clear hf2
  have HV65 := Lib.hid h65
  have HSM := Lib.hid hsm
  have HBAD := Lib.hid hbad
  clear h65 hsm hbad
  go_enter Try.func29, Try.ntmps29
  go_wp2_with (first
    | (go_at_call 49; refine (QK.out _).mono ?_; rintro v w' ⟨rfl, rfl⟩)
    | (go_at_call_of 53 (Value.int IntKind.i64 1); refine (QR.out _ HY.out).mono ?_; rintro v w1 ⟨rfl, hG, q, hq, hB, hE⟩; have HX1 := Lib.hid (HX.out.grown hG (by intro h; injection h with h; omega)); have HQ := Lib.hid hq; have HB1 := Lib.hid hB; have HE1 := Lib.hid hE; have hL1 := below_only (below2 w (.cells (rowA zeros) 40) (.cells (rowA zeros) 40)) (by simp; omega) hG (by omega); have hs1 : w.heap.size < w1.heap.size := HX1.out.lt; have hs1b : w.heap.size + 1 < w1.heap.size := Blk.lt HB1.out; clear hG hq hB hE; have hqe := HE1.out rfl; rw [HF.out] at hqe; rw [hqe] at HB1; clear hqe HE1 HQ; have c1 := (Blk.cell HB1.out 1).trans HG1.out)
    | (go_at_call 53; refine (QS.out _ HB1.out).mono ?_; rintro v w2 ⟨rfl, hG, q, hq, hB, hE⟩; have HX2 := Lib.hid (Blk.grown HX1.out hG (by intro h; injection h with h; omega)); have HQ := Lib.hid hq; have HB2 := Lib.hid hB; have HE2 := Lib.hid hE; have hL2 := below_only hL1 (by omega) hG (by omega); have hs2 : w.heap.size < w2.heap.size := Blk.lt HX2.out; have hs2b : w.heap.size + 1 < w2.heap.size := Blk.lt HB2.out; clear hG hq hB hE; have hqe := HE2.out rfl; rw [HF2.out] at hqe; rw [hqe] at HB2; clear hqe HE2 HQ))
  go_loop [13, 14] (fun x i => ∃ m : Nat, m ≤ 63 ∧ i = .int .i64 (66 + (m : Int)) ∧ x = .bool (anyR q2 m)) (fun _ i => 129 - (intOf i).toNat)
  case atStart => exact ⟨0, by omega, by simp, rfl⟩
  case round =>
    obtain ⟨m, hm, rfl, rfl⟩ := hrel
    by_cases hlt : m < 63
    · have y0 := (Blk.cell HB2.out (66 + m)).trans (HG2.out (66 + m) (by omega))
      have hst : Hid (anyR q2 (m + 1) = (anyR q2 m || q2.getD (66 + m) false)) := rfl
      obtain ⟨v, hv⟩ : ∃ v, q2.getD (66 + m) false = v := ⟨_, rfl⟩
      obtain ⟨u', hu⟩ : ∃ u, anyR q2 m = u := ⟨_, rfl⟩
      rw [hv] at y0 hst
      rw [hu] at hst ⊢
      clear hv hu
      have bd : (66 + (m : Int)).toNat = 66 + m := by omega
      have b0 : (0 : Int) ≤ 66 + (m : Int) := by omega
      have b1 : 66 + (m : Int) < 129 := by omega
      cases u' <;> cases v
      all_goals
        go_wp2
        go_round
        case rel => exact ⟨m + 1, by omega, by go_num, by rw [hst.out]; rfl⟩
        case measure => simp [intOf]; omega
    · have hm2 : m = 63 := by omega
      subst hm2
      have c65 := (Blk.cell HB2.out 65).trans (HG2.out 65 (by omega))
      rw [HV65.out] at c65
      rw [HSM.out]
      rcases HBAD.out with rfl | ⟨rfl, rfl⟩
      all_goals
        go_wp2_with (first
          | (refine wpList_build40 rfl rfl ?_)
          | (refine wpList_store_row rfl 40 (.tmp 4) (.tmp 64) rfl _ (rowA zeros) rfl rfl 40 (rowA zeros) HX2.out HS0.out rfl H10.out ?_))
        exact results_cell40_2 (r := zeros) rfl zeros_len rfl (Blk.setRow (r := zeros) HX2.out) rfl ⟨rfl, below_setRow hL2 (Nat.le_refl _)⟩
set_option maxRecDepth 100000 in
set_option maxHeartbeats 2000000 in
theorem rdec_two (enc : Int) (b : ByteArray) (hs : b.size ≤ 9223372036854775807) (hk : knownB enc = true) (x : Int) (z : Nat) (hr : readV (fE enc) b 0 = (x, 0, z)) (q1 : List Bool) (hf : fill zeros 0 64 x.toNat = q1) (hv : q1.getD 1 false = true) (hz1 : z ≤ b.size) (y : Int) (u : Nat) (hr2 : readV (fE enc) b z = (y, 0, u)) (q2 : List Bool) (hf2 : fill q1 64 64 y.toNat = q2) (h65 : q2.getD 65 false = false) (hsm : anyR q2 63 = true) (w : World) :
    Calls Try.prog 29 #[.int .i64 enc, .string b] w fun v w' => v = .returned (.tuple #[.agg (rowA (q2.set 1 false)), .int .i64 0, .int .i64 (u : Int)]) ∧ Below w.heap.size w w' := by
  have hz := zero40
  have HS0 : Hid ((Try.prog.info? 40).map (·.size) = some (rowA zeros).size) := by show _ = _; rw [info40, rowA_size, zeros_len]
  have H10 : Hid ((rowA zeros).all (·.oneCell') = true) := rowA_one zeros
  have QK : Hid (∀ w, Calls Try.prog 49 #[.int .i64 enc] w fun e w' => e = .returned (.bool true) ∧ w = w') := Lib.hid fun w => by
    have := known_any enc w; rwa [hk] at this
  clear hk
  have HX : Hid (Blk ((w.alloc (.cells (rowA zeros) 40)).alloc (.cells (rowA zeros) 40)) w.heap.size 40 (rowA zeros)) := (Blk.new w 40 _).alloc _
  have HY : Hid (Blk ((w.alloc (.cells (rowA zeros) 40)).alloc (.cells (rowA zeros) 40)) (w.heap.size + 1) 40 (rowA zeros)) := Blk.new2 _ _ _ _
  have QR : Hid (∀ W, Blk W (w.heap.size + 1) 40 (rowA zeros) → Calls Try.prog 53 #[.pointer (some ⟨w.heap.size + 1, 0, none⟩), .int .i64 enc, .string b, .int .i64 0, .int .i64 1] W (ReadPost W (w.heap.size + 1) zeros 0 x 0 z)) :=
    Lib.hid fun W hX => rread_0 enc (w.heap.size + 1) b zeros x 0 z hs zeros_len hr W hX
  clear hr
  have HF : Hid (fill zeros 0 64 x.toNat = q1) := hf
  have HL1 : Hid (q1.length = 129) := by show _ = _; rw [← HF.out]; exact fill_len _ _ _ _
  have HG1 : Hid ((rowA q1)[1]? = some (.bool true)) := by show _ = _; rw [rowA_get q1 1 (by rw [HL1.out]; omega), hv]
  have HSq : Hid ((Try.prog.info? 40).map (·.size) = some (rowA q1).size) := by show _ = _; rw [info40, rowA_size, HL1.out]
  have HZq : Hid ((rowA zeros).size = (rowA q1).size) := by show _ = _; rw [rowA_size, rowA_size, HL1.out, zeros_len]
  have H1q : Hid ((rowA q1).all (·.oneCell') = true) := rowA_one q1
  clear hf hv
  have QS : Hid (∀ W, Blk W (w.heap.size + 1) 40 (rowA q1) → Calls Try.prog 53 #[.pointer (some ⟨w.heap.size + 1, 0, none⟩), .int .i64 enc, .string b, .int .i64 (z : Int), .int .i64 65] W (ReadPost W (w.heap.size + 1) q1 64 y 0 u)) :=
    Lib.hid fun W hX => rread_any enc (w.heap.size + 1) b z 65 64 q1 y 0 u hs hz1 HL1.out (by omega) (by omega) hr2 W hX
  clear hr2 hz1
  have HF2 : Hid (fill q1 64 64 y.toNat = q2) := hf2
  have HL2 : Hid (q2.length = 129) := by show _ = _; rw [← HF2.out]; exact fill_len _ _ _ _
  have HG2 : Hid (∀ k, k < 129 → (rowA q2)[k]? = some (.bool (q2.getD k false))) := by
    show ∀ k, _
    intro k hk; exact rowA_get q2 k (by rw [HL2.out]; omega)
  clear hf2
  have HV65 := Lib.hid h65
  have HSM := Lib.hid hsm
  have hq3 : (q2.set 1 false).length = 129 := by rw [List.length_set]; exact HL2.out
  have HSet : Hid ((rowA q2).setIfInBounds 1 (.bool false) = rowA (q2.set 1 false)) := rowA_set _ _ _
  obtain ⟨q3, hq⟩ : ∃ q, q2.set 1 false = q := ⟨_, rfl⟩
  rw [hq] at hq3 HSet ⊢
  have HL3 := Lib.hid hq3
  have HS3 : Hid ((Try.prog.info? 40).map (·.size) = some (rowA q3).size) := by show _ = _; rw [info40, rowA_size, hq3]
  have HZ3 : Hid ((rowA zeros).size = (rowA q3).size) := by show _ = _; rw [rowA_size, rowA_size, hq3, zeros_len]
  have H13 : Hid ((rowA q3).all (·.oneCell') = true) := rowA_one q3
  clear h65 hsm hq hq3
  go_enter Try.func29, Try.ntmps29
  go_wp2_with (first
    | (go_at_call 49; refine (QK.out _).mono ?_; rintro v w' ⟨rfl, rfl⟩)
    | (go_at_call_of 53 (Value.int IntKind.i64 1); refine (QR.out _ HY.out).mono ?_; rintro v w1 ⟨rfl, hG, q, hq, hB, hE⟩; have HX1 := Lib.hid (HX.out.grown hG (by intro h; injection h with h; omega)); have HQ := Lib.hid hq; have HB1 := Lib.hid hB; have HE1 := Lib.hid hE; have hL1 := below_only (below2 w (.cells (rowA zeros) 40) (.cells (rowA zeros) 40)) (by simp; omega) hG (by omega); have hs1 : w.heap.size < w1.heap.size := HX1.out.lt; have hs1b : w.heap.size + 1 < w1.heap.size := Blk.lt HB1.out; clear hG hq hB hE; have hqe := HE1.out rfl; rw [HF.out] at hqe; rw [hqe] at HB1; clear hqe HE1 HQ; have c1 := (Blk.cell HB1.out 1).trans HG1.out)
    | (go_at_call 53; refine (QS.out _ HB1.out).mono ?_; rintro v w2 ⟨rfl, hG, q, hq, hB, hE⟩; have HX2 := Lib.hid (Blk.grown HX1.out hG (by intro h; injection h with h; omega)); have HQ := Lib.hid hq; have HB2 := Lib.hid hB; have HE2 := Lib.hid hE; have hL2 := below_only hL1 (by omega) hG (by omega); have hs2 : w.heap.size < w2.heap.size := Blk.lt HX2.out; have hs2b : w.heap.size + 1 < w2.heap.size := Blk.lt HB2.out; clear hG hq hB hE; have hqe := HE2.out rfl; rw [HF2.out] at hqe; rw [hqe] at HB2; clear hqe HE2 HQ))
  go_loop [13, 14] (fun x i => ∃ m : Nat, m ≤ 63 ∧ i = .int .i64 (66 + (m : Int)) ∧ x = .bool (anyR q2 m)) (fun _ i => 129 - (intOf i).toNat)
  case atStart => exact ⟨0, by omega, by simp, rfl⟩
  case round =>
    obtain ⟨m, hm, rfl, rfl⟩ := hrel
    by_cases hlt : m < 63
    · have y0 := (Blk.cell HB2.out (66 + m)).trans (HG2.out (66 + m) (by omega))
      have hst : Hid (anyR q2 (m + 1) = (anyR q2 m || q2.getD (66 + m) false)) := rfl
      obtain ⟨v, hv⟩ : ∃ v, q2.getD (66 + m) false = v := ⟨_, rfl⟩
      obtain ⟨u', hu⟩ : ∃ u, anyR q2 m = u := ⟨_, rfl⟩
      rw [hv] at y0 hst
      rw [hu] at hst ⊢
      clear hv hu
      have bd : (66 + (m : Int)).toNat = 66 + m := by omega
      have b0 : (0 : Int) ≤ 66 + (m : Int) := by omega
      have b1 : 66 + (m : Int) < 129 := by omega
      cases u' <;> cases v
      all_goals
        go_wp2
        go_round
        case rel => exact ⟨m + 1, by omega, by go_num, by rw [hst.out]; rfl⟩
        case measure => simp [intOf]; omega
    · have hm2 : m = 63 := by omega
      subst hm2
      have c65 := (Blk.cell HB2.out 65).trans (HG2.out 65 (by omega))
      rw [HV65.out] at c65
      rw [HSM.out]
      have d0 := (Blk.cell HB2.out 1).trans (HG2.out 1 (by omega))
      have d1 := Blk.frozen HB2.out 1
      have HB3 : Hid (Blk (w2.setCell ⟨w.heap.size + 1, 1, none⟩ (.bool false)) (w.heap.size + 1) 40 (rowA q3)) := by
        have h := Blk.set_ HB2.out 1 (.bool false)
        rw [HSet.out] at h; exact h
      have HX3 : Hid (Blk (w2.setCell ⟨w.heap.size + 1, 1, none⟩ (.bool false)) w.heap.size 40 (rowA zeros)) := Blk.far_ (by omega) _ HX2.out
      have hL3 := hL2.setCell (p := ⟨w.heap.size + 1, 1, none⟩) (by simp) (.bool false)
      go_wp2_with (first
        | (refine wpList_load_row rfl 40 (.tmp 8) rfl _ rfl 40 (rowA q3) (0, 0) _ HB3.out Try.underlying40 rfl HS3.out ?_)
        | (refine wpList_store_row rfl 40 (.tmp 4) (.tmp 67) rfl _ (rowA q3) rfl rfl 40 (rowA zeros) HX3.out HS3.out HZ3.out H13.out ?_))
      exact results_cell40_2 (r := q3) rfl HL3.out rfl (Blk.setRow (r := q3) HX3.out) rfl ⟨rfl, below_setRow hL3 (Nat.le_refl _)⟩
end Go.Proofs.Ytieloocmkgficaa
