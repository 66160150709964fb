/-
  BitmapOf: numbers in memory of their own; lent, back, the document's Of.
-/
import Derived.Test.YtieloocmkgficaaAsksP
namespace Go.Proofs.Ytieloocmkgficaa
open Go.RowKit
set_option linter.unusedVariables false
set_option linter.unusedSimpArgs false
def intA (l : List Int) : Array Value := (l.map (Value.int .i64)).toArray
theorem intA_get (l : List Int) (k : Nat) (h : k < l.length) : (intA l)[k]? = some (.int .i64 (l.getD k 0)) := by
  simp [intA, List.getElem?_eq_getElem h]
theorem intA_set (l : List Int) (k : Nat) (v : Int) : (intA l).setIfInBounds k (.int .i64 v) = intA (l.set k v) := by
  simp [intA, List.map_set]
/-- A list of numbers that lies somewhere below. -/
def InL (w : World) (A : Option Addr) (ys : List Int) : Prop :=
  ∀ k, k < ys.length → ∃ b off, A = some ⟨b, off, none⟩ ∧ b < w.heap.size ∧ w.cell? ⟨b, off + k, none⟩ = some (.int .i64 (ys.getD k 0))
theorem InL.below {w w' : World} {A : Option Addr} {ys : List Int} (h : InL w A ys) (hb : Below w.heap.size w w') : InL w' A ys := fun k hk => by
  obtain ⟨b, off, e, hlt, hc⟩ := h k hk
  exact ⟨b, off, e, Nat.lt_of_lt_of_le hlt hb.size, (hb.cell (p := ⟨b, off + k, none⟩) hlt).trans hc⟩
theorem InL.blk {w : World} {g : Nat} {l : List Int} (ys : List Int) (h : Blk w g 3 (intA l)) (hl : ys.length ≤ l.length) (he : ∀ k, k < ys.length → l.getD k 0 = ys.getD k 0) : InL w (some ⟨g, 0, none⟩) ys := fun k hk =>
  ⟨g, 0, rfl, h.lt, by rw [Nat.zero_add, h.cell k, intA_get l k (by omega), he k hk]⟩
def lentK (ys : List Int) (i : Nat) : List Int := (List.range (ys.length + 8)).map (fun j => if j < i then (if j < ys.length then ys.getD j 0 else -77) else 0)
theorem lentK_len (ys : List Int) (i : Nat) : (lentK ys i).length = ys.length + 8 := by simp [lentK]
theorem lentK_set (ys : List Int) (i : Nat) (v : Int) (h : i < ys.length + 8) (hv : v = if i < ys.length then ys.getD i 0 else -77) : (lentK ys i).set i v = lentK ys (i + 1) := by
  apply List.ext_getElem
  · rw [List.length_set, lentK_len, lentK_len]
  · intro j h1 h2
    rw [List.getElem_set]
    simp only [lentK, List.getElem_map, List.getElem_range]
    by_cases e : i = j
    · subst e
      rw [if_pos rfl, if_pos (show i < i + 1 by omega)]; exact hv
    · rw [if_neg e]
      by_cases c : j < i
      · rw [if_pos c, if_pos (show j < i + 1 by omega)]
      · rw [if_neg c, if_neg (show ¬ j < i + 1 by omega)]
theorem lentK_zero (ys : List Int) : madeCells #[.int .i64 0] (ys.length + 8) = intA (lentK ys 0) := by
  apply Array.ext'
  rw [toList_madeCells_one]
  apply List.ext_getElem
  · simp [intA, lentK]
  · intro j h1 h2
    simp [intA, lentK]
theorem lentK_get (ys : List Int) (i k : Nat) (h : k < ys.length + 8) : (lentK ys i).getD k 0 = if k < i then (if k < ys.length then ys.getD k 0 else -77) else 0 := by
  have hl : k < (lentK ys i).length := by rw [lentK_len]; exact h
  rw [List.getD, List.getElem?_eq_getElem hl, Option.getD_some]
  simp only [lentK, List.getElem_map, List.getElem_range]
theorem Try.info3i : (Try.prog.info? 3).map (fun i => (i.zero, i.size, i.bytes)) = some (some (.int .i64 0), 1, 8) := by kernel_rfl
set_option maxHeartbeats 1000000 in
theorem lent_any (A : Option Addr) (n cap : Nat) (ys : List Int) (hn : ys.length = n) (hb : n ≤ 1048576) (w : World) (hI : InL w A ys) :
    Calls Try.prog 20 #[.slice A n cap] w fun e w' => e = .returned (.slice (some ⟨w.heap.size, 0, none⟩) (n + 8) (n + 8)) ∧ Blk w' w.heap.size 3 (intA (lentK ys (n + 8))) ∧ Below w.heap.size w w' := by
  obtain ⟨i0, hi, hz0, hz1, hz2⟩ := info_parts Try.info3i
  have hmk : ∀ u : World, (Instr.makeSlice 35 (.int .i64 ((n : Int) + 8)) (.int .i64 ((n : Int) + 8))).run Try.prog u =
      .ok (.slice (some ⟨u.heap.size, 0, none⟩) (n + 8) (n + 8)) (u.alloc (.cells (intA (lentK ys 0)) 3)) := fun u => by
    have h := run_make (P := Try.prog) u 35 3 i0 (.int .i64 0) Try.underlying35 hi hz0 .i64 .i64 ((n : Int) + 8) ((n : Int) + 8) (by omega) (Int.le_refl _) (by rw [hz2]; omega) (by omega)
    have e : ((n : Int) + 8).toNat = n + 8 := by omega
    rw [e] at h
    rw [← lentK_zero, hn]
    simpa [hz1, Value.cells] using h
  have HN := Lib.hid hn
  have HI := Lib.hid hI
  clear hn hI hi hz0 hz1 hz2
  go_enter Try.func20, Try.ntmps20
  go_wp2
  clear hmk
  go_loopw [4] (fun i wr => ∃ k : Nat, k ≤ n + 8 ∧ i = .int .i64 k ∧ Blk wr w.heap.size 3 (intA (lentK ys k)) ∧ Below w.heap.size w wr) (fun i _ => n + 8 - (intOf i).toNat)
  case atStart => exact ⟨0, by omega, rfl, Blk.new w 3 _, (Below.refl _ _).alloc (Nat.le_refl _) _⟩
  case round =>
    obtain ⟨k, hk, rfl, hX, hB⟩ := hrel
    by_cases hlt : k < n + 8
    · have y0 := (hX.cell k).trans (intA_get _ k (by rw [lentK_len, HN.out]; exact hlt))
      have yf := hX.frozen k
      have HX := Lib.hid hX
      clear hX
      by_cases hlk : k < n
      · obtain ⟨b, off, rfl, hbs, hc⟩ := HI.out k (by rw [HN.out]; exact hlk)
        have hcx : wr.cell? ⟨b, off + k, none⟩ = some (.int .i64 (ys.getD k 0)) := (hB.cell (p := ⟨b, off + k, none⟩) hbs).trans hc
        obtain ⟨v, hv⟩ : ∃ v, ys.getD k 0 = v := ⟨_, rfl⟩
        rw [hv] at hcx
        have hne : b ≠ w.heap.size := by omega
        have HV := Lib.hid hv
        clear hv hc
        go_wp2
        go_roundw
        case rel =>
          refine ⟨k + 1, by omega, by go_num, ?_, (hB.setCell (p := ⟨w.heap.size, k, none⟩) (Nat.le_refl _) _).setCell (p := ⟨w.heap.size, k, none⟩) (Nat.le_refl _) _⟩
          have q := (HX.out.set_ k (.int .i64 (-77))).set_ k (.int .i64 v)
          rw [intA_set, intA_set, List.set_set, lentK_set ys k v (by rw [HN.out]; exact hlt) (by rw [HN.out, if_pos hlk, HV.out])] at q
          exact q
        case measure => simp [intOf]; omega
      · go_wp2
        go_roundw
        case rel =>
          refine ⟨k + 1, by omega, by go_num, ?_, hB.setCell (p := ⟨w.heap.size, k, none⟩) (Nat.le_refl _) _⟩
          have q := HX.out.set_ k (.int .i64 (-77))
          rw [intA_set, lentK_set ys k (-77) (by rw [HN.out]; exact hlt) (by rw [HN.out, if_neg hlk])] at q
          exact q
        case measure => simp [intOf]; omega
    · have hk2 : k = n + 8 := by omega
      subst hk2
      have HX := Lib.hid hX
      clear hX
      go_wp2
      go_ret
      exact ⟨rfl, HX.out, hB⟩
def ofRow : List Int → List Bool → List Bool × Int
  | [], r => (r, 0)
  | z :: zs, r => if fldB z = true then ofRow zs (r.set z.toNat true) else (zeros, 1)
theorem ofRow_step (zs : List Int) (k : Nat) (r : List Bool) (h : k < zs.length) : ofRow (zs.drop k) r = if fldB (zs.getD k 0) = true then ofRow (zs.drop (k + 1)) (r.set (zs.getD k 0).toNat true) else (zeros, 1) := by
  rw [List.drop_eq_getElem_cons h]
  simp only [ofRow, List.getD, List.getElem?_eq_getElem h, Option.getD_some]
theorem ofRow_len : ∀ (zs : List Int) (r : List Bool), r.length = 129 → (ofRow zs r).1.length = 129
  | [], r, h => h
  | z :: zs, r, h => by
    simp only [ofRow]
    split
    · exact ofRow_len zs _ (by rw [List.length_set]; exact h)
    · exact zeros_len
set_option maxRecDepth 100000 in
set_option maxHeartbeats 1000000 in
theorem rof_any (A : Option Addr) (n cap : Nat) (ys : List Int) (hn : ys.length = n) (hb : n ≤ 1048576) (w : World) (hI : InL w A ys) :
    Calls Try.prog 23 #[.slice A n cap] w fun e w' => e = .returned (.tuple #[.agg (rowA (ofRow ys zeros).1), .int .i64 (ofRow ys zeros).2]) ∧ Below w.heap.size w w' := by
  have hz := zero40
  have HS0 : Hid ((Try.prog.info? 40).map (·.size) = some (rowA zeros).size) := by show _ = _; rw [info40, rowA_size, zeros_len]
  have H10 : Hid ((rowA zeros).all (·.oneCell') = true) := rowA_one zeros
  obtain ⟨D, hD⟩ : ∃ D, ofRow ys zeros = D := ⟨_, rfl⟩
  have hDl : D.1.length = 129 := by rw [← hD]; exact ofRow_len _ _ zeros_len
  rw [hD]
  have HN := Lib.hid hn
  have HI := Lib.hid hI
  have HD := Lib.hid hD
  have HDL := Lib.hid hDl
  clear hn hI hD hDl
  go_enter Try.func23, Try.ntmps23
  go_wp2
  clear hz
  go_loopw [5] (fun i wr => ∃ (k : Nat) (r : List Bool), k ≤ n ∧ i = .int .i64 k ∧ Hid (r.length = 129) ∧ Blk wr w.heap.size 40 (rowA zeros) ∧ Blk wr (w.heap.size + 1) 40 (rowA r) ∧ Below w.heap.size w wr ∧ Hid (ofRow (ys.drop k) r = D)) (fun i _ => n - (intOf i).toNat)
  case atStart => exact ⟨0, zeros, by omega, rfl, Lib.hid zeros_len, (Blk.new w 40 _).alloc _, Blk.new2 _ _ _ _, below2 _ _ _, HD⟩
  case round =>
    obtain ⟨k, r, hk, rfl, hr, hX, hY, hB, hR⟩ := hrel
    have HX := Lib.hid hX
    have HY := Lib.hid hY
    clear hX hY
    by_cases hlt : k < n
    · obtain ⟨b, off, rfl, hbs, hc⟩ := HI.out k (by rw [HN.out]; exact hlt)
      have hcx : wr.cell? ⟨b, off + k, none⟩ = some (.int .i64 (ys.getD k 0)) := (hB.cell (p := ⟨b, off + k, none⟩) hbs).trans hc
      have hst := Lib.hid (ofRow_step ys k r (by rw [HN.out]; exact hlt))
      obtain ⟨x, hx⟩ : ∃ x, ys.getD k 0 = x := ⟨_, rfl⟩
      rw [hx] at hcx hst
      have hne : b ≠ w.heap.size + 1 := by omega
      have hne2 : b ≠ w.heap.size := by omega
      clear hx hc
      cases hf : fldB x
      · have HF := Lib.hid hf
        clear hf
        go_wp2_with (first
          | (go_at_call 45; refine (rfield_any _ _).mono ?_; rintro e w' ⟨rfl, rfl⟩; rw [HF.out])
          | (refine wpList_build40 rfl rfl ?_)
          | (refine wpList_store_row rfl 40 (.tmp 2) (.tmp 20) rfl _ (rowA zeros) rfl rfl 40 (rowA zeros) HX.out HS0.out rfl H10.out ?_))
        have e : D = (zeros, 1) := by rw [← hR.out, hst.out, HF.out]; rfl
        exact ret_row2 (r := zeros) rfl zeros_len rfl (Blk.setRow (r := zeros) HX.out) rfl ⟨by rw [e]; rfl, below_setRow hB (Nat.le_refl _)⟩
      · obtain ⟨l0, l1⟩ := fld_bd hf
        have HF := Lib.hid hf
        have y0 := (Blk.cell HY.out x.toNat).trans (rowA_get r x.toNat (by rw [hr.out]; omega))
        have yf := Blk.frozen HY.out x.toNat
        clear hf
        go_wp2_with (go_at_call 45; refine (rfield_any _ _).mono ?_; rintro e w' ⟨rfl, rfl⟩; rw [HF.out])
        go_roundw
        case rel =>
          refine ⟨k + 1, r.set x.toNat true, by omega, by go_num, Lib.hid (by rw [List.length_set]; exact hr.out), Blk.far_ (by omega) _ HX.out, ?_, hB.setCell (p := ⟨w.heap.size + 1, x.toNat, none⟩) (by simp) _, Lib.hid ?_⟩
          · have q := Blk.set_ HY.out x.toNat (.bool true)
            rw [rowA_set] at q; exact q
          · rw [← hR.out, hst.out, HF.out]; rfl
        case measure => simp [intOf]; omega
    · have hk2 : k = n := by omega
      have e : Hid (D = (r, 0)) := by
        show _ = _
        rw [← hR.out, List.drop_eq_nil_of_le (by rw [HN.out]; omega)]; rfl
      have HSr : Hid ((Try.prog.info? 40).map (·.size) = some (rowA r).size) := by show _ = _; rw [info40, rowA_size, hr.out]
      have HZr : Hid ((rowA zeros).size = (rowA r).size) := by show _ = _; rw [rowA_size, rowA_size, hr.out]; exact zeros_len
      have H1r : Hid ((rowA r).all (·.oneCell') = true) := rowA_one r
      clear hk2
      go_wp2_with (first
        | (refine wpList_load_row rfl 40 (.tmp 4) rfl _ rfl 40 (rowA r) (0, 0) _ HY.out Try.underlying40 rfl HSr.out ?_)
        | (refine wpList_store_row rfl 40 (.tmp 2) (.tmp 26) rfl _ (rowA r) rfl rfl 40 (rowA zeros) HX.out HSr.out HZr.out H1r.out ?_))
      exact ret_row2 (r := r) rfl hr.out rfl (Blk.setRow (r := r) HX.out) rfl ⟨by rw [e.out]; rfl, below_setRow hB (Nat.le_refl _)⟩
end Go.Proofs.Ytieloocmkgficaa
