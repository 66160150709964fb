/-
  The document's Field, Right, Has, With, Without, each by its contract.
-/
import Derived.Test.YtieloocmkgficaaHalf
namespace Go.Proofs.Ytieloocmkgficaa
open Go.RowKit
set_option linter.unusedVariables false
set_option linter.unusedSimpArgs false
def rightR (r : List Bool) : Bool := !(r.getD 1 false) && !(r.getD 65 false)
def hasR (r : List Bool) (n : Int) : Bool := fldB n && r.getD n.toNat false
def withR (r : List Bool) (n : Int) : List Bool := if fldB n && rightR r then r.set n.toNat true else zeros
def withRE (r : List Bool) (n : Int) : Int := if fldB n && rightR r then 0 else 1
def withoutR (r : List Bool) (n : Int) : List Bool := if fldB n then r.set n.toNat false else r
theorem zeros_len : zeros.length = 129 := by simp [zeros]
theorem built40 : Try.prog.built 40 [] = some (rowA zeros) := by kernel_rfl
theorem wpList_build40 {ops : Array Oper} {rest : List Oper} {o : Oper} {a : Act} {w : World} {Q : Exit → Act → World → Prop} (hg : o.guard = none) (ho : o.op = .build 40 #[])
    (h : wpList Try.prog ops Q rest (a.put o.dst (.agg (rowA zeros))) w) : wpList Try.prog ops Q (o :: rest) a w := by
  refine wpList_build hg 40 #[] ho ?_ ?_
  · simp [built40]
  · simpa [built40] using h
set_option maxHeartbeats 400000 in
theorem rfield_any (n : Int) (w : World) : Calls Try.prog 45 #[.int .i64 n] w fun e w' => e = .returned (.bool (fldB n)) ∧ w = w' := by
  go_enter Try.func45, Try.ntmps45
  go_wp2
  · go_ret
    rename_i h1 h2
    exact ⟨fld_bool n _ (by simp [fldB, h1, h2]; rfl), rfl⟩
  · go_ret
    rename_i h1 h2
    exact ⟨fld_bool n _ (by simp [fldB, h1]; omega), rfl⟩
  · go_ret
    rename_i h1
    exact ⟨fld_bool n _ (by simp [fldB]; omega), rfl⟩
set_option maxHeartbeats 400000 in
theorem rright_any (r : List Bool) (hr : r.length = 129) (w : World) : Calls Try.prog 35 #[.agg (rowA r)] w fun e w' => e = .returned (.bool (rightR r)) ∧ Below w.heap.size w w' := by
  have y0 := ((Blk.new w 40 (rowA r)).cell 1).trans (rowA_get r 1 (by omega))
  have y1 := ((Blk.new w 40 (rowA r)).cell 65).trans (rowA_get r 65 (by omega))
  unfold rightR
  obtain ⟨c, hc⟩ : ∃ c, rowA r = c := ⟨_, rfl⟩
  rw [hc] at y0 y1 ⊢
  clear hc
  obtain ⟨v1, e1⟩ : ∃ v, r.getD 1 false = v := ⟨_, rfl⟩
  obtain ⟨v2, e2⟩ : ∃ v, r.getD 65 false = v := ⟨_, rfl⟩
  rw [e1] at y0 ⊢
  rw [e2] at y1 ⊢
  clear e1 e2
  cases v1 <;> cases v2
  all_goals
    go_enter Try.func35, Try.ntmps35
    go_wp2
    go_ret
    exact ⟨rfl, (Below.refl _ _).alloc (Nat.le_refl _) _⟩
set_option maxHeartbeats 400000 in
theorem rhas_any (r : List Bool) (hr : r.length = 129) (n : Int) (w : World) : Calls Try.prog 36 #[.agg (rowA r), .int .i64 n] w fun e w' => e = .returned (.bool (hasR r n)) ∧ Below w.heap.size w w' := by
  unfold hasR
  cases hf : fldB n
  · have HF := Lib.hid hf
    clear hf
    obtain ⟨c, hc⟩ : ∃ c, rowA r = c := ⟨_, rfl⟩
    rw [hc]
    clear hc
    go_enter Try.func36, Try.ntmps36
    go_wp2_with (go_at_call 45; refine (rfield_any _ _).mono ?_; rintro e w' ⟨rfl, rfl⟩; rw [HF.out])
    go_ret
    exact ⟨rfl, (Below.refl _ _).alloc (Nat.le_refl _) _⟩
  · obtain ⟨l0, l1⟩ := fld_bd hf
    have HF := Lib.hid hf
    clear hf
    have y0 := ((Blk.new w 40 (rowA r)).cell n.toNat).trans (rowA_get r n.toNat (by omega))
    obtain ⟨c, hc⟩ : ∃ c, rowA r = c := ⟨_, rfl⟩
    rw [hc] at y0 ⊢
    clear hc
    obtain ⟨v1, e1⟩ : ∃ v, r.getD n.toNat false = v := ⟨_, rfl⟩
    rw [e1] at y0 ⊢
    clear e1
    go_enter Try.func36, Try.ntmps36
    go_wp2_with (go_at_call 45; refine (rfield_any _ _).mono ?_; rintro e w' ⟨rfl, rfl⟩; rw [HF.out])
    go_ret
    exact ⟨rfl, (Below.refl _ _).alloc (Nat.le_refl _) _⟩
theorem ret_row2 {fn : Func} {p u : Tmp} {a : Act} {w : World} {R : Ending → World → Prop} {g : Nat} {r : List Bool} (h : fn.results = #[.cell p 40, .tmp u]) (hr : r.length = 129) (hp : a.tmps.getD p undef = .pointer (some ⟨g, 0, none⟩))
    (hg : Blk w g 40 (rowA r)) (hd : a.defers = []) (hR : R (.returned (.tuple #[.agg (rowA r), a.tmps.getD u undef])) w) : bodyPost Try.prog fn R .ret a w := by
  refine bodyPost_ret (v := .tuple #[.agg (rowA r), a.tmps.getD u undef]) ?_ hd hR
  rw [results_cell_tmp h, hp]
  simp [asAddr, Result.andThen, run_loadVar_row w g 40 40 (rowA r) (0, 0) _ hg Try.underlying40 rfl (by rw [info40, rowA_size, hr])]
set_option maxHeartbeats 1000000 in
theorem rwithout_any (r : List Bool) (hr : r.length = 129) (n : Int) (w : World) : Calls Try.prog 34 #[.agg (rowA r), .int .i64 n] w fun e w' => e = .returned (.agg (rowA (withoutR r n))) ∧ Below w.heap.size w w' := by
  have hz := zero40
  unfold withoutR
  cases hf : fldB n
  · have HF := Lib.hid hf
    clear hf
    have HR := Lib.hid hr
    have HS : Hid ((Try.prog.info? 40).map (·.size) = some (rowA r).size) := by show _ = _; rw [info40, rowA_size, hr]
    have HZ : Hid ((rowA zeros).size = (rowA r).size) := by show _ = _; rw [rowA_size, rowA_size, hr]; rfl
    have H1 : Hid ((rowA r).all (·.oneCell') = true) := rowA_one r
    have HX : Hid (Blk ((w.alloc (.cells (rowA r) 40)).alloc (.cells (rowA zeros) 40)) w.heap.size 40 (rowA r)) := (Blk.new w 40 (rowA r)).alloc _
    have HY : Hid (Blk ((w.alloc (.cells (rowA r) 40)).alloc (.cells (rowA zeros) 40)) (w.heap.size + 1) 40 (rowA zeros)) := Blk.new2 _ _ _ _
    simp only [Bool.false_eq_true, if_false]
    clear hr
    go_enter Try.func34, Try.ntmps34
    go_wp2_with (first
      | (go_at_call 45; refine (rfield_any _ _).mono ?_; rintro e w' ⟨rfl, rfl⟩; rw [HF.out])
      | (refine wpList_load_row rfl 40 (.tmp 2) rfl _ rfl 40 (rowA r) (0, 0) _ HX.out Try.underlying40 rfl HS.out ?_)
      | (refine wpList_store_row rfl 40 (.tmp 4) (.tmp 11) rfl _ (rowA r) rfl rfl 40 (rowA zeros) HY.out HS.out HZ.out H1.out ?_))
    exact ret_row rfl HR.out rfl HY.out.setRow rfl ⟨rfl, below_setRow (below2 _ _ _) (by omega)⟩
  · obtain ⟨l0, l1⟩ := fld_bd hf
    have HF := Lib.hid hf
    clear hf
    have y0 := (((Blk.new w 40 (rowA r)).alloc (.cells (rowA zeros) 40)).cell n.toNat).trans (rowA_get r n.toNat (by omega))
    simp only [if_true]
    have hq : (r.set n.toNat false).length = 129 := by simp [hr]
    have HX : Hid (Blk ((w.alloc (.cells ((rowA r).setIfInBounds n.toNat (.bool false)) 40)).alloc (.cells (rowA zeros) 40)) w.heap.size 40 (rowA (r.set n.toNat false))) := by
      rw [rowA_set]; exact (Blk.new w 40 _).alloc _
    have HY : Hid (Blk ((w.alloc (.cells ((rowA r).setIfInBounds n.toNat (.bool false)) 40)).alloc (.cells (rowA zeros) 40)) (w.heap.size + 1) 40 (rowA zeros)) := Blk.new2 _ _ _ _
    generalize r.set n.toNat false = q at *
    have HR := Lib.hid hq
    have HS : Hid ((Try.prog.info? 40).map (·.size) = some (rowA q).size) := by show _ = _; rw [info40, rowA_size, hq]
    have HZ : Hid ((rowA zeros).size = (rowA q).size) := by show _ = _; rw [rowA_size, rowA_size, hq]; rfl
    have H1 : Hid ((rowA q).all (·.oneCell') = true) := rowA_one q
    clear hr hq
    go_enter Try.func34, Try.ntmps34
    go_wp2_with (first
      | (go_at_call 45; refine (rfield_any _ _).mono ?_; rintro e w' ⟨rfl, rfl⟩; rw [HF.out])
      | (refine wpList_load_row rfl 40 (.tmp 2) rfl _ rfl 40 (rowA q) (0, 0) _ HX.out Try.underlying40 rfl HS.out ?_)
      | (refine wpList_store_row rfl 40 (.tmp 4) (.tmp 11) rfl _ (rowA q) rfl rfl 40 (rowA zeros) HY.out HS.out HZ.out H1.out ?_))
    exact ret_row rfl HR.out rfl HY.out.setRow rfl ⟨rfl, below_setRow (below2 _ _ _) (by omega)⟩
set_option maxRecDepth 100000 in
set_option maxHeartbeats 1000000 in
theorem rwith_any (r : List Bool) (hr : r.length = 129) (n : Int) (w : World) : Calls Try.prog 33 #[.agg (rowA r), .int .i64 n] w fun e w' => e = .returned (.tuple #[.agg (rowA (withR r n)), .int .i64 (withRE r n)]) ∧ Below w.heap.size w w' := by
  have hz := zero40
  have QR := Lib.hid fun w => rright_any r hr w
  have HS : Hid ((Try.prog.info? 40).map (·.size) = some (rowA r).size) := by show _ = _; rw [info40, rowA_size, hr]
  have HX : Hid (Blk ((w.alloc (.cells (rowA r) 40)).alloc (.cells (rowA zeros) 40)) w.heap.size 40 (rowA r)) := (Blk.new w 40 (rowA r)).alloc _
  have HY : Hid (Blk ((w.alloc (.cells (rowA r) 40)).alloc (.cells (rowA zeros) 40)) (w.heap.size + 1) 40 (rowA zeros)) := Blk.new2 _ _ _ _
  have HS0 : Hid ((Try.prog.info? 40).map (·.size) = some (rowA zeros).size) := by show _ = _; rw [info40, rowA_size]; rfl
  have H10 : Hid ((rowA zeros).all (·.oneCell') = true) := rowA_one zeros
  unfold withR withRE
  cases hc : fldB n && rightR r
  · simp only [Bool.false_eq_true, if_false]
    have hor : Hid ((fldB n) = false ∨ rightR r = false) := by
      show _ ∨ _
      cases h1 : fldB n
      · exact .inl rfl
      · rw [h1] at hc; exact .inr (by simpa using hc)
    have HRR := Lib.hid hr
    clear hc hr
    obtain ⟨v1, e1⟩ : ∃ v, fldB n = v := ⟨_, rfl⟩
    obtain ⟨v2, e2⟩ : ∃ v, rightR r = v := ⟨_, rfl⟩
    rw [e1, e2] at hor
    rw [e2] at QR
    have HF := Lib.hid e1
    clear e1 e2
    have hv : v1 = false ∨ v1 = true ∧ v2 = false := by
      rcases hor.out with h | h
      · exact .inl h
      · cases v1
        · exact .inl rfl
        · exact .inr ⟨rfl, h⟩
    clear hor
    rcases hv with rfl | ⟨rfl, rfl⟩
    all_goals
      go_enter Try.func33, Try.ntmps33
      go_wp2_with (first
        | (go_at_call 45; refine (rfield_any _ _).mono ?_; rintro e w' ⟨rfl, rfl⟩; rw [HF.out])
        | (refine wpList_load_row rfl 40 (.tmp 2) rfl _ rfl 40 (rowA r) (0, 0) _ HX.out Try.underlying40 rfl HS.out ?_)
        | (go_at_call 35; refine (QR.out _).mono ?_; rintro e w1 ⟨rfl, hb⟩; have HY1 := Lib.hid (Blk.below HY.out hb (by simp)); have hB2 := (below2 w (.cells (rowA r) 40) (.cells (rowA zeros) 40)).trans (hb.mono (by simp; omega)); clear hb)
        | (refine wpList_build40 rfl rfl ?_)
        | (refine wpList_store_row rfl 40 (.tmp 4) (.tmp 18) rfl _ (rowA zeros) rfl rfl 40 (rowA zeros) HY1.out HS0.out rfl H10.out ?_))
      exact ret_row2 (r := zeros) rfl zeros_len rfl (Blk.setRow (r := zeros) HY1.out) rfl ⟨rfl, below_setRow hB2 (by omega)⟩
  · rw [Bool.and_eq_true] at hc
    obtain ⟨hf, hrt⟩ := hc
    obtain ⟨l0, l1⟩ := fld_bd hf
    rw [hrt] at QR
    simp only [if_true]
    have HF := Lib.hid hf
    clear hf hrt
    have hq : (r.set n.toNat true).length = 129 := by simp [hr]
    have HG : Hid (∀ k, k < 129 → (rowA r)[k]? = some (.bool (r.getD k false))) := by
      show ∀ k, _
      intro k hk; exact rowA_get r k (by omega)
    have HSet : Hid ((rowA r).setIfInBounds n.toNat (.bool true) = rowA (r.set n.toNat true)) := rowA_set _ _ _
    generalize r.set n.toNat true = q at *
    have HR := Lib.hid hq
    have HSq : Hid ((Try.prog.info? 40).map (·.size) = some (rowA q).size) := by show _ = _; rw [info40, rowA_size, hq]
    have HZ : Hid ((rowA zeros).size = (rowA q).size) := by show _ = _; rw [rowA_size, rowA_size, hq]; rfl
    have H1 : Hid ((rowA q).all (·.oneCell') = true) := rowA_one q
    have LN : Hid (n.toNat < 129) := by show n.toNat < 129; omega
    clear hr hq
    go_enter Try.func33, Try.ntmps33
    go_wp2_with (first
      | (go_at_call 45; refine (rfield_any _ _).mono ?_; rintro e w' ⟨rfl, rfl⟩; rw [HF.out])
      | (go_at_call 35; refine (QR.out _).mono ?_; rintro e w1 ⟨rfl, hb⟩; have hX1 := Blk.below HX.out hb (by simp; omega); have x0 := (hX1.cell n.toNat).trans (HG.out n.toNat LN.out); have xf := hX1.frozen n.toNat; have HX1 := Lib.hid (hX1.set_ n.toNat (.bool true)); have HY1 := Lib.hid (Blk.far_ (b := w.heap.size) (i := n.toNat) (by omega) (.bool true) (Blk.below HY.out hb (by simp))); have hB2 := (below2 w (.cells (rowA r) 40) (.cells (rowA zeros) 40)).trans (hb.mono (by simp; omega)); clear hb hX1; rw [HSet.out] at HX1)
      | (refine wpList_load_row rfl 40 (.tmp 2) rfl _ rfl 40 (rowA r) (0, 0) _ HX.out Try.underlying40 rfl HS.out ?_)
      | (refine wpList_load_row rfl 40 (.tmp 2) rfl _ rfl 40 (rowA q) (0, 0) _ HX1.out Try.underlying40 rfl HSq.out ?_)
      | (refine wpList_store_row rfl 40 (.tmp 4) (.tmp 21) rfl _ (rowA q) rfl rfl 40 (rowA zeros) HY1.out HSq.out HZ.out H1.out ?_))
    exact ret_row2 rfl HR.out rfl (Blk.setRow HY1.out) rfl ⟨rfl, below_setRow (hB2.setCell (p := ⟨w.heap.size, n.toNat, none⟩) (Nat.le_refl _) _) (by omega)⟩
end Go.Proofs.Ytieloocmkgficaa
