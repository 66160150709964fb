/-
  BitmapOf: back, by its contract; the plain law.
-/
import Derived.Test.YtieloocmkgficaaOfP
import Derived.BigQuiet
namespace Go.Proofs.Ytieloocmkgficaa
open Go.RowKit Go.BigFrame
set_option linter.unusedVariables false
set_option linter.unusedSimpArgs false
theorem cell_same {w w' : World} {g b o : Nat} (h : w.grownBy w' (some g)) (hb : b < w.heap.size) (hne : b ≠ g) : w'.cell? ⟨b, o, none⟩ = w.cell? ⟨b, o, none⟩ := by
  have e := h.block b hb (by intro h; injection h with h; exact hne h)
  simp only [World.cell?, e]
def backK (ys : List Int) (i : Nat) : List Int := (List.range (ys.length + 8)).map (fun j => if j < i then 3 else if j < ys.length then ys.getD j 0 else -77)
theorem backK_len (ys : List Int) (i : Nat) : (backK ys i).length = ys.length + 8 := by simp [backK]
theorem backK_zero (ys : List Int) : backK ys 0 = lentK ys (ys.length + 8) := by
  apply List.ext_getElem
  · rw [backK_len, lentK_len]
  · intro j h1 h2
    simp only [backK, lentK, List.getElem_map, List.getElem_range]
    rw [if_neg (by omega), if_pos (show j < ys.length + 8 by rw [backK_len] at h1; exact h1)]
theorem backK_all (ys : List Int) : backK ys (ys.length + 8) = List.replicate (ys.length + 8) 3 := by
  apply List.ext_getElem
  · rw [backK_len, List.length_replicate]
  · intro j h1 h2
    simp only [backK, List.getElem_map, List.getElem_range, List.getElem_replicate]
    rw [if_pos (show j < ys.length + 8 by rw [backK_len] at h1; exact h1)]
theorem backK_get (ys : List Int) (k : Nat) (h : k < ys.length + 8) : (backK ys k).getD k 0 = if k < ys.length then ys.getD k 0 else -77 := by
  have hl : k < (backK ys k).length := by rw [backK_len]; exact h
  rw [List.getD, List.getElem?_eq_getElem hl, Option.getD_some]
  simp only [backK, List.getElem_map, List.getElem_range]
  rw [if_neg (by omega)]
theorem backK_set (ys : List Int) (k : Nat) (h : k < ys.length + 8) : (backK ys k).set k 3 = backK ys (k + 1) := by
  apply List.ext_getElem
  · rw [List.length_set, backK_len, backK_len]
  · intro j h1 h2
    rw [List.getElem_set]
    simp only [backK, List.getElem_map, List.getElem_range]
    by_cases e : k = j
    · subst e
      rw [if_pos rfl, if_pos (show k < k + 1 by omega)]
    · rw [if_neg e]
      by_cases c : j < k
      · rw [if_pos c, if_pos (show j < k + 1 by omega)]
      · rw [if_neg c, if_neg (show ¬ j < k + 1 by omega)]
set_option maxRecDepth 100000 in
set_option maxHeartbeats 2000000 in
theorem back_any (A : Option Addr) (g n cap : Nat) (ys : List Int) (hn : ys.length = n) (hb : n ≤ 1048576) (w : World) (hX : Blk w g 3 (intA (lentK ys (n + 8))))
    (hI : ∀ k, k < n → ∃ b off, A = some ⟨b, off, none⟩ ∧ b < w.heap.size ∧ b ≠ g ∧ w.cell? ⟨b, off + k, none⟩ = some (.int .i64 (ys.getD k 0))) :
    Calls Try.prog 22 #[.slice (some ⟨g, 0, none⟩) (n + 8) (n + 8), .slice A n cap] w fun e w' => e = .returned (.bool true) ∧ w.grownBy w' (some g) ∧ Blk w' g 3 (intA (List.replicate (n + 8) 3)) := by
  have HN := Lib.hid hn
  have HI := Lib.hid hI
  have HX0 : Hid (Blk w g 3 (intA (backK ys 0))) := by show Blk _ _ _ _; rw [backK_zero, hn]; exact hX
  clear hn hI hX
  go_enter Try.func22, Try.ntmps22
  go_wp2
  go_loopw [5, 6] (fun o i wr => ∃ k : Nat, k ≤ n + 8 ∧ o = .bool true ∧ i = .int .i64 k ∧ Blk wr g 3 (intA (backK ys k)) ∧ w.grownBy wr (some g)) (fun _ i _ => n + 8 - (intOf i).toNat)
  case atStart => exact ⟨0, by omega, rfl, rfl, HX0.out, only_refl _ _⟩
  case round =>
    obtain ⟨k, hk, rfl, rfl, hX, hG⟩ := hrel
    by_cases hlt : k < n + 8
    · have y0 := (hX.cell k).trans (intA_get _ k (by rw [backK_len, HN.out]; exact hlt))
      rw [backK_get ys k (by rw [HN.out]; exact hlt), HN.out] at y0
      have yf := hX.frozen k
      have HX := Lib.hid hX
      clear hX
      by_cases hlk : k < n
      · obtain ⟨b, off, rfl, hbs, hne, hc⟩ := HI.out k hlk
        have hcx : wr.cell? ⟨b, off + k, none⟩ = some (.int .i64 (ys.getD k 0)) := (cell_same hG hbs hne).trans hc
        rw [if_pos hlk] at y0
        obtain ⟨v, hv⟩ : ∃ v, ys.getD k 0 = v := ⟨_, rfl⟩
        rw [hv] at hcx y0
        have d1 : decide ((k : Int) < (n : Int)) = true := decide_eq_true (by omega)
        clear hv hc
        go_wp2
        go_quiet (fail)
        all_goals
          go_wp2
          go_roundw
          case rel =>
            refine ⟨k + 1, by omega, by first | rfl | trivial, by go_num, ?_, only_own (only_drewN hG _) _⟩
            have q : ∀ W : World, Blk W g 3 (intA (backK ys k)) → Blk (W.setCell ⟨g, k, none⟩ (.int .i64 3)) g 3 (intA (backK ys (k + 1))) := fun W h => by
              have q := Blk.set_ h k (.int .i64 3)
              rwa [intA_set, backK_set ys k (by rw [HN.out]; exact hlt)] at q
            exact q _ HX.out
          case measure => simp [intOf]; omega
      · rw [if_neg hlk] at y0
        have d1 : decide ((k : Int) < (n : Int)) = false := decide_eq_false (by omega)
        have d2 : decide ((n : Int) ≤ (k : Int)) = true := decide_eq_true (by omega)
        obtain ⟨v, hv⟩ : ∃ v, (-77 : Int) = v := ⟨_, rfl⟩
        rw [hv] at y0
        have d3 : (v == -77) = true := by rw [← hv]; rfl
        have d4 : n ≤ k := by omega
        have d5 : ((n : Int) ≤ (k : Int)) := by omega
        clear hv
        go_wp2
        go_quiet (fail)
        all_goals
          go_wp2
          go_roundw
          case rel =>
            refine ⟨k + 1, by omega, by first | rfl | trivial, by go_num, ?_, only_own (only_drewN hG _) _⟩
            have q : ∀ W : World, Blk W g 3 (intA (backK ys k)) → Blk (W.setCell ⟨g, k, none⟩ (.int .i64 3)) g 3 (intA (backK ys (k + 1))) := fun W h => by
              have q := Blk.set_ h k (.int .i64 3)
              rwa [intA_set, backK_set ys k (by rw [HN.out]; exact hlt)] at q
            exact q _ HX.out
          case measure => simp [intOf]; omega
    · have hk2 : k = n + 8 := by omega
      subst hk2
      have HX := Lib.hid hX
      clear hX
      go_wp2
      go_ret
      have q := HX.out
      have e := backK_all ys
      rw [HN.out] at e
      rw [e] at q
      exact ⟨rfl, hG, q⟩
/-- What Of says and what the document's says are alike. -/
theorem of_like : ∀ (zs : List Int) (F S : B64) (r : List Bool), r.length = 129 → (F == hB r 0 && S == hB r 64) = true →
    ((ofGo zs F S).1 == hB (ofRow zs r).1 0 && (ofGo zs F S).2.1 == hB (ofRow zs r).1 64) = true ∧ (ofGo zs F S).2.2 = (ofRow zs r).2
  | [], F, S, r, hr, h => ⟨h, rfl⟩
  | z :: zs, F, S, r, hr, h => by
    simp only [ofGo, ofRow]
    cases hf : fldB z
    · simp only [Bool.false_eq_true, if_false]
      exact ⟨by rw [Bool.and_eq_true]; exact ⟨zero_like 0 (by omega), zero_like 64 (by omega)⟩, trivial⟩
    · simp only [if_true]
      obtain ⟨l0, l1⟩ := fld_bd hf
      rw [Bool.and_eq_true, beq_iff_eq, beq_iff_eq] at h
      obtain ⟨h1, h2⟩ := h
      refine of_like zs _ _ _ (by rw [List.length_set]; exact hr) ?_
      rw [Bool.and_eq_true]
      refine ⟨hB_ext _ _ _ fun i hi => ?_, hB_ext _ _ _ fun i hi => ?_⟩
      · rw [BitVec.getLsbD_or, getD_set _ _ _ _ (by omega), h1, hB_get _ _ _ hi]
        unfold oF
        rcases fld_cases hf with ⟨c1, c2⟩ | ⟨c1, c2⟩
        · rw [if_pos c2, tw_get _ _ hi]
          by_cases e : (64 - z).toNat = i
          · rw [decide_eq_true e, Bool.or_true, if_pos (by omega)]
          · rw [decide_eq_false e, Bool.or_false, if_neg (by omega)]
        · rw [if_neg (show ¬ z ≤ 64 by omega), if_neg (by omega)]; simp
      · rw [BitVec.getLsbD_or, getD_set _ _ _ _ (by omega), h2, hB_get _ _ _ hi]
        unfold oS
        rcases fld_cases hf with ⟨c1, c2⟩ | ⟨c1, c2⟩
        · rw [if_pos c2, if_neg (by omega)]; simp
        · rw [if_neg (show ¬ z ≤ 64 by omega), tw_get _ _ hi]
          by_cases e : (128 - z).toNat = i
          · rw [decide_eq_true e, Bool.or_true, if_pos (by omega)]
          · rw [decide_eq_false e, Bool.or_false, if_neg (by omega)]
end Go.Proofs.Ytieloocmkgficaa
