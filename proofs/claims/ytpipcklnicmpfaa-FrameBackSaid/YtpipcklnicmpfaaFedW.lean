/-
  The walk of the law's fed.
-/
import Derived.Test.YtpipcklnicmpfaaFed
namespace Go.Proofs.Ytpipcklnicmpfaa
open Go.RowKit
set_option linter.unusedVariables false
set_option linter.unusedSimpArgs false
theorem FS.fin {w W W3 : World} {g B : Nat} {r : Option Nat} {h m : Int} {st0 : St} {s0 : Bys} {ms : List Bys} {out v out3 v3 : Value} {st : St} {t b : Bys} (f : FS w W g B r h m st0 s0 ms out v st t) (f3 : FS w W3 g B r h m st0 s0 (ms ++ feedM h m st t) out3 v3 (feedS h m st t) b) :
    Fin_ w W3 g B r h m (feedM h m st0 s0) (feedE h m st0 s0) (feedS h m st0 s0) out3 v3 :=
  ⟨by rw [f.hM]; exact f3.own, by rw [f.hS]; exact f3.strm, f3.hv, f3.fr⟩
theorem FS.err {w W : World} {g B : Nat} {r : Option Nat} {h m : Int} {st0 : St} {s0 : Bys} {ms : List Bys} {out v : Value} {st : St} {t : Bys} (f : FS w W g B r h m st0 s0 ms out v st t) : feedE h m st0 s0 = feedE h m st t := by
  rw [feedE_bad, feedE_bad, f.hS]
theorem last_ok {h m : Int} {st : St} {t : Bys} {la : Int} (hE : feedE h m st t = 0) (hl : la = 0 ∨ la = st.bad) : la = 0 := by
  rcases hl with e | e
  · exact e
  · unfold feedE at hE
    by_cases hb : st.bad = 0
    · rw [e, hb]
    · rw [if_neg hb] at hE; rw [e]; exact hE
theorem ret_out {a b : Value} {c d : Int} (h1 : a = b) (h2 : c = d) : Ending.returned (.tuple #[a, .int .i64 c]) = .returned (.tuple #[b, .int .i64 d]) := by rw [h1, h2]
set_option maxRecDepth 100000 in
set_option maxHeartbeats 2000000 in
theorem fed_any {B : Nat} {w : World} {g : Nat} {v : Value} {h m : Int} {st : St} (hs : Strm B w g v h m st) (h1 : 1 ≤ h) (h4 : h ≤ 4) (m1 : 1 ≤ m) (hm : m ≤ 9999) (t0 : Bys) (A : Option Addr) (n cap : Nat) (ys : List Int) (hn : ys.length = n)
    (hI : Ints w B A ys) (hz : st.waits.length + t0.length ≤ 100000000) (hi : st.idle ≤ 10000000000) (hnn : n ≤ 9223372036854775807) :
    Calls Try.prog 14 #[.pointer (some ⟨g, 0, none⟩), .string (bstr t0), .slice A n cap] w (Fed w g B v h m st t0) := by
  have F0 := Lib.hid (FS.start hs t0)
  have HI := Lib.hid hI
  have HN := Lib.hid hn
  have hg := hs.1.lt
  have hBg := hs.2.2.2
  have HR : Hid (∀ j, v.ownBlock = some j → B ≤ j) := Lib.hid fun j e => (hs.2.1.lt j e).1
  obtain ⟨i9, hi9, hz0, hz1, hz2⟩ := info_parts Try.info9
  have KCV := Lib.hid fun (W : World) (s : ByteArray) => Lib.run_convert_string_bytes (P := Try.prog) W 9 60 5 s Try.underlying9 Try.underlying60 Try.underlying5
  clear hs hI hn
  go_enter Try.func14, Try.ntmps14
  go_wp2
  go_loopw [1, 8, 9, 10] (fun s l e i wr => ∃ (k : Nat) (t : Bys) (ms : List Bys) (out v' : Value) (st' : St) (la : Int), k ≤ n ∧ i = .int .i64 k ∧ s = .string (bstr t) ∧ l = out ∧ e = .int .i64 la ∧ Hid (FS w wr g B v.ownBlock h m st t0 ms out v' st' t) ∧ Hid (la = 0 ∨ la = st'.bad)) (fun _ _ _ i _ => n - (intOf i).toNat)
  case atStart => exact ⟨0, t0, [], _, v, st, 0, by omega, rfl, rfl, rfl, rfl, F0, Lib.hid (.inl rfl)⟩
  case round =>
    clear F0
    obtain ⟨k, t, ms, out, v', st', la, hk, rfl, rfl, rfl, rfl, HF, HL⟩ := hrel
    have hsz := HF.out.fr.size
    have hbs := bstr_size t
    have q1 := HF.out.hi
    have q2 := HF.out.hms
    have ho := HF.out.own
    obtain ⟨Ao, co, rfl⟩ := own_form ho
    by_cases hround : k < n ∧ t ≠ []
    · obtain ⟨hlt, htn⟩ := hround
      have e1 : (bstr t).toList.isEmpty = false := str_ne (by rw [bstr_size]; exact fun e => htn (List.eq_nil_of_length_eq_zero e))
      have d1 : decide ((k : Int) < (n : Int)) = true := decide_eq_true (by omega)
      obtain ⟨b, off, rfl, hb, hc, hc1, hc2⟩ := HI.out k (by rw [HN.out]; exact hlt)
      have hcx : wr.cell? ⟨b, off + k, none⟩ = some (.int .i64 (ys.getD k 0)) := ((HF.out.fr.below (by omega) hBg HR.out).cell (p := ⟨b, off + k, none⟩) hb).trans hc
      obtain ⟨z, hz⟩ : ∃ z, ys.getD k 0 = z := ⟨_, rfl⟩
      rw [hz] at hcx hc1 hc2
      obtain ⟨hp1, hp2⟩ := pick_rng z ((t.length : Int) + 1) (by omega)
      obtain ⟨J, hJ⟩ : ∃ J : Nat, pickV z ((t.length : Int) + 1) = (J : Int) := ⟨(pickV z ((t.length : Int) + 1)).toNat, by omega⟩
      rw [hJ] at hp1 hp2
      have HJ := Lib.hid hJ
      have hJl : J ≤ t.length := by omega
      have hx1 := ext_take t J
      have hx2 := ext_drop t J
      have kcv := KCV.out wr (bstr (t.take J))
      clear hc hz hJ htn
      have hJt := List.length_take_of_le hJl
      go_wp2_with (first
        | (go_at_call 11; refine (pick_any _ _ _ (by omega) (by omega) (by omega) (by omega)).mono ?_; rintro e w' ⟨rfl, rfl⟩; rw [HJ.out])
        | (go_at_call 26; refine (feed_any (HF.out.below (bytes_below wr 5 (bstr (t.take J)))).strm h1 h4 m1 hm _ (bstr (t.take J)).size _ (t.take J) rfl (bytes_reads wr (bstr (t.take J))) (by rw [bstr_size]; omega) (by omega)).mono ?_; rintro e w2 ⟨o2, v2, rfl, hF⟩; obtain ⟨A2, c2, rfl⟩ := own_form hF.own; have hk := (HF.out.below (bytes_below wr 5 (bstr (t.take J)))).kept hF; have hrd := Reads.of_own hF.own; have hb2 := (HF.out.below (bytes_below wr 5 (bstr (t.take J)))).fr.size; have hb3 := hF.fr.size; have q3 := (feed_sizes h m st' (t.take J)).2; rw [hJt] at q3; have HF2 := Lib.hid hF; clear hF)
        | (at_builtin; refine wpList_append_any _ rfl _ _ 27 rfl w.heap.size 9 i9 (.string ByteArray.empty) 1 16 Try.underlying27 hi9 hz0 hz1 hz2 rfl (by decide) _ ms.length (strs ms) rfl hk w2.heap.size A2 (feedM h m st' (t.take J)).length c2 (strs (feedM h m st' (t.take J))) rfl hrd (strs_one _) (by unfold maxLen; omega) (by omega) (by omega) ?_; intro v3 w3 hown hgrow hat; obtain ⟨A3, c3, rfl⟩ := own_form hown; have HF3 := Lib.hid ((HF.out.below (bytes_below wr 5 (bstr (t.take J)))).fed (List.take_append_drop J t).symm HF2.out hgrow hown); clear hown hgrow hat hk hrd))
      go_roundw
      case rel => exact ⟨k + 1, t.drop J, _, _, _, _, _, by omega, by go_num, rfl, rfl, rfl, HF3, Lib.hid (.inr (feedE_bad _ _ _ _))⟩
      case measure => simp [intOf]; omega
    · have e1 : Hid (k < n → (bstr t).toList.isEmpty = true) := by
        show _ → _
        intro hlt
        refine str_nil ?_
        rw [bstr_size]
        by_cases ht : t = []
        · rw [ht]; rfl
        · exact absurd ⟨hlt, ht⟩ hround
      have kcv := KCV.out wr (bstr t)
      clear hround
      by_cases hE : feedE h m st' t = 0
      all_goals
        first
        | (have g1 : (feedE h m st' t == 0) = true := by (rw [hE]; rfl))
        | (have g1 : (feedE h m st' t == 0) = false := by (rw [beq_eq_false_iff_ne]; exact hE))
        have HE := Lib.hid hE
        clear hE
        by_cases hlt : k < n
        · have e2 := e1.out hlt
          have d1 : decide ((k : Int) < (n : Int)) = true := decide_eq_true (by omega)
          go_wp2_with (first
            | (go_at_call 26; refine (feed_any (HF.out.below (bytes_below wr 5 (bstr t))).strm h1 h4 m1 hm _ (bstr t).size _ t rfl (bytes_reads wr (bstr t)) (by rw [bstr_size]; omega) (by omega)).mono ?_; rintro e w2 ⟨o2, v2, rfl, hF⟩; obtain ⟨A2, c2, rfl⟩ := own_form hF.own; have hk := (HF.out.below (bytes_below wr 5 (bstr t))).kept hF; have hrd := Reads.of_own hF.own; have hb2 := (HF.out.below (bytes_below wr 5 (bstr t))).fr.size; have hb3 := hF.fr.size; have q3 := (feed_sizes h m st' t).2; have HF2 := Lib.hid hF; clear hF)
            | (at_builtin; refine wpList_append_any _ rfl _ _ 27 rfl w.heap.size 9 i9 (.string ByteArray.empty) 1 16 Try.underlying27 hi9 hz0 hz1 hz2 rfl (by decide) _ ms.length (strs ms) rfl hk w2.heap.size A2 (feedM h m st' t).length c2 (strs (feedM h m st' t)) rfl hrd (strs_one _) (by unfold maxLen; omega) (by omega) (by omega) ?_; intro v3 w3 hown hgrow hat; obtain ⟨A3, c3, rfl⟩ := own_form hown; have HF3 := Lib.hid ((HF.out.below (bytes_below wr 5 (bstr t))).fed (List.append_nil t).symm HF2.out hgrow hown); clear hown hgrow hat hk hrd))
          go_ret2
          refine ⟨_, v2, ?_, HF.out.fin HF3.out⟩
          rw [HF.out.err]
          first
          | exact ret_out rfl ((last_ok HE.out HL.out).trans HE.out.symm)
          | exact ret_out rfl rfl
        · have d1 : decide ((k : Int) < (n : Int)) = false := decide_eq_false (by omega)
          go_wp2_with (first
            | (go_at_call 26; refine (feed_any (HF.out.below (bytes_below wr 5 (bstr t))).strm h1 h4 m1 hm _ (bstr t).size _ t rfl (bytes_reads wr (bstr t)) (by rw [bstr_size]; omega) (by omega)).mono ?_; rintro e w2 ⟨o2, v2, rfl, hF⟩; obtain ⟨A2, c2, rfl⟩ := own_form hF.own; have hk := (HF.out.below (bytes_below wr 5 (bstr t))).kept hF; have hrd := Reads.of_own hF.own; have hb2 := (HF.out.below (bytes_below wr 5 (bstr t))).fr.size; have hb3 := hF.fr.size; have q3 := (feed_sizes h m st' t).2; have HF2 := Lib.hid hF; clear hF)
            | (at_builtin; refine wpList_append_any _ rfl _ _ 27 rfl w.heap.size 9 i9 (.string ByteArray.empty) 1 16 Try.underlying27 hi9 hz0 hz1 hz2 rfl (by decide) _ ms.length (strs ms) rfl hk w2.heap.size A2 (feedM h m st' t).length c2 (strs (feedM h m st' t)) rfl hrd (strs_one _) (by unfold maxLen; omega) (by omega) (by omega) ?_; intro v3 w3 hown hgrow hat; obtain ⟨A3, c3, rfl⟩ := own_form hown; have HF3 := Lib.hid ((HF.out.below (bytes_below wr 5 (bstr t))).fed (List.append_nil t).symm HF2.out hgrow hown); clear hown hgrow hat hk hrd))
          go_ret2
          refine ⟨_, v2, ?_, HF.out.fin HF3.out⟩
          rw [HF.out.err]
          first
          | exact ret_out rfl ((last_ok HE.out HL.out).trans HE.out.symm)
          | exact ret_out rfl rfl
end Go.Proofs.Ytpipcklnicmpfaa
