/-
  The contract of Feed, from its beginning on.
-/
import Derived.Test.YtpipcklnicmpfaaFeedJ
import Derived.Outline
namespace Go.Proofs.Ytpipcklnicmpfaa
open Go.RowKit
set_option linter.unusedVariables false
set_option linter.unusedSimpArgs false
/-- What Feed leaves. -/
def Fed (w : World) (g B : Nat) (v : Value) (h m : Int) (s : St) (b : Bys) (e : Ending) (w' : World) : Prop :=
  ∃ out v', e = .returned (.tuple #[out, .int .i64 (feedE h m s b)]) ∧ Fin_ w w' g B v.ownBlock h m (feedM h m s b) (feedE h m s b) (feedS h m s b) out v'
theorem Try.info5 : (Try.prog.info? 5).map (fun i => (i.zero, i.size, i.bytes)) = some (some (.int .u8 0), 1, 1) := by kernel_rfl
theorem own_form {w : World} {B e s n : Nat} {v : Value} {xs : List Value} (h : w.ownsRow B e s v n xs) : ∃ A c, v = .slice A n c := by
  rcases h.2 with ⟨hv, h0⟩ | ⟨k, cap, cur, hv, _⟩
  · exact ⟨none, 0, by rw [hv, h0]⟩
  · exact ⟨_, _, hv⟩
theorem res26 : Try.f26.results = #[.tmp 4, .tmp 5] := by kernel_rfl
set_option maxHeartbeats 1000000 in
theorem feed_bad {B : Nat} {w : World} {g : Nat} {v : Value} {h m : Int} {s : St} (hs : Strm B w g v h m s) (hb : s.bad ≠ 0) (b : Bys) (x : Value) :
    Calls Try.prog 26 #[.pointer (some ⟨g, 0, none⟩), x] w (Fed w g B v h m s b) := by
  have x3 := hs.1.cell 3
  simp at x3
  have hg := hs.1.lt
  have d : (s.bad == 0) = false := by simpa using hb
  have HS := Lib.hid hs
  have HB := Lib.hid hb
  clear hs hb
  go_enter Try.func26, Try.ntmps26
  go_wp2
  go_step3
  go_wp2
  go_quiet (fail)
  go_wp2
  go_ret2
  have e1 : feedE h m s b = s.bad := by unfold feedE; rw [if_neg HB.out]
  have e2 : feedM h m s b = [] := by unfold feedM; rw [if_neg HB.out]
  have e3 : feedS h m s b = s := by unfold feedS; rw [if_neg HB.out]
  refine ⟨.slice none 0 0, v, by rw [e1]; rfl, ?_⟩
  rw [e1, e2, e3]
  exact ⟨World.ownsRow_nil _ _ _ _, HS.out, .inl rfl, (Fr.refl w g _).drewN _⟩
set_option maxRecDepth 100000 in
set_option maxHeartbeats 1000000 in
theorem feed_good {B : Nat} {w : World} {g : Nat} {v : Value} {h m : Int} {s : St} (hs : Strm B w g v h m s) (hb : s.bad = 0) (h1 : 1 ≤ h) (h4 : h ≤ 4) (m1 : 1 ≤ m) (hm : m ≤ 9999) (A : Option Addr) (n c : Nat) (b : Bys) (hn : b.length = n)
    (hr : Reads w w.heap.size 1 A n (bcells b)) (hz : s.waits.length + n ≤ 1000000000) (hi : s.idle ≤ 100000000000) :
    Calls Try.prog 26 #[.pointer (some ⟨g, 0, none⟩), .slice A n c] w (Fed w g B v h m s b) := by
  have x0 := hs.1.cell 0
  have x2 := hs.1.cell 2
  have x3 := hs.1.cell 3
  simp at x0 x2 x3
  rw [hb] at x3
  have hg := hs.1.lt
  have hBg := hs.2.2.2
  have hgf := hs.1.frozen
  have HL : Hid ((s.waits ++ b).length = s.waits.length + n) := by show _ = _; rw [List.length_append, hn]
  have HBC : Hid (bcells s.waits ++ bcells b = bcells (s.waits ++ b)) := by show _ = _; unfold bcells; rw [List.map_append]
  have HS := Lib.hid hs
  have HB := Lib.hid hb
  have HR := Lib.hid hr
  have hown := hs.2.1
  obtain ⟨i5, hi5, hz0, hz1, hz2⟩ := info_parts Try.info5
  have hone := bcells_one b
  obtain ⟨H, hH⟩ : ∃ H, hsz h = H := ⟨_, rfl⟩
  have HH : Hid (sizeV h = (H : Int)) := by show _ = _; rw [size_hsz h1 h4, hH]
  have HHz := Lib.hid hH
  have hgb : B ≤ w.heap.size := by omega
  clear hs hb hr hn hH
  go_enter Try.func26, Try.ntmps26
  go_wp2
  have HQ : Hid (∀ a W' out' v' e, a.tmps.getD 4 undef = out' → a.tmps.getD 5 undef = .int .i64 e → a.defers = [] → Fin_ w W' g B v.ownBlock h m (cut h m (s.waits ++ b)).ms (cut h m (s.waits ++ b)).err ⟨(cut h m (s.waits ++ b)).rest, (cut h m (s.waits ++ b)).err, s.idle + (cut h m (s.waits ++ b)).idle⟩ out' v' → e = (cut h m (s.waits ++ b)).err → bodyPost Try.prog Try.f26 (Fed w g B v h m s b) .ret a W') := by
    show ∀ _ _, _
    intro a W' out' v' e h4' h5' hd hF he
    refine bodyPost_ret (results_tmp2 res26 _ _ _) hd ⟨out', v', ?_, ?_⟩
    · rw [h4', h5', he]; unfold feedE; rw [if_pos HB.out]
    · unfold feedE feedM feedS; rw [if_pos HB.out, if_pos HB.out, if_pos HB.out]; exact hF
  refine wp_scope_two (J0 w g B v.ownBlock h m (s.waits ++ b) s.idle H) (J1 w g B v.ownBlock h m (s.waits ++ b) s.idle H) (μ1 (s.waits ++ b)) rfl rfl ?first (fun a W hJ => pass0_any HHz.out (by rw [HL.out]; exact hz) hi _ HQ a W hJ _ rfl) (fun a W hJ => wp_seq (wp_skip (pass1_any HHz.out h1 h4 m1 hm (by rw [HL.out]; exact hz) hi _ HQ a W hJ _ rfl)))
  case first =>
    go_wp2_with (first
      | (at_builtin; refine wpList_append_any _ rfl _ _ 60 rfl B 5 i5 (.int .u8 0) 1 1 Try.underlying60 hi5 hz0 hz1 hz2 rfl (by decide) v s.waits.length (bcells s.waits) rfl hown w.heap.size A n c (bcells b) rfl HR.out hone (by unfold maxLen; omega) (by omega) hgb ?_; intro v' w1 hown' hgrow hat; obtain ⟨A', cap', rfl⟩ := own_form hown'; have hB1 := HS.out.1.grown hgrow (Ne.symm HS.out.2.2.1); have y0 := hB1.cell 0; have y2 := hB1.cell 2; simp at y0 y2; have yf := hB1.frozen; have HB1 := Lib.hid hB1; clear hB1; have HO := Lib.hid hown'; have HG := Lib.hid hgrow; have HA := Lib.hid hat; clear hown' hgrow hat)
      | (go_at_call 40; refine (size_any _ _).mono ?_; rintro e w' ⟨rfl, rfl⟩; rw [HH.out]))
    go_step3
    rename_i hK
    refine hK _ _ (wp_mono (pass1_any HHz.out h1 h4 m1 hm (by rw [HL.out]; exact hz) hi _ HQ _ _ ⟨0, [], 0, .slice none 0 0, .slice A' (s.waits.length + n) cap', ?_, rfl, rfl, rfl, rfl, rfl, rfl⟩ _ rfl) (two_mono (fun _ _ hh => hh) (fun _ _ hh => hh.1)))
    have hF : Fr w w1 g v.ownBlock := Fr.of_grown HG.out (.inl rfl)
    have hne : (Value.slice A' (s.waits.length + n) cap').ownBlock ≠ some g := by
      rcases HA.out with e | e <;> rw [e]
      · exact HS.out.2.2.1
      · intro e; injection e with e; omega
    have hF2 : ∀ u, Fr w1 (w1.setCell ⟨g, 2, none⟩ u) g none := fun u => (Fr.refl w1 g none).set_ (p := ⟨g, 2, none⟩) (.inl rfl) _
    refine ⟨by omega, by simp [Cut.after], ?_, ?_, hne, ?_, World.ownsRow_nil _ _ _ _, hF.set_ (p := ⟨g, 2, none⟩) (.inl rfl) _, hBg, hg⟩
    · have := HB1.out.set2 (.slice A' (s.waits.length + n) cap')
      rw [HB.out] at this
      exact this
    · rw [HL.out, ← HBC.out]
      exact (hF2 _).row HO.out hne (by cases (Value.slice A' (s.waits.length + n) cap').ownBlock <;> simp)
    · rcases HA.out with e | e
      · exact .inl e
      · right; intro j hj; rw [e] at hj; injection hj with hj; omega
end Go.Proofs.Ytpipcklnicmpfaa
