/-
  The contract of Feed.
-/
import Derived.Test.YtpipcklnicmpfaaFeeda
import Derived.Test.YtpipcklnicmpfaaFeedb
import Derived.Test.YtpipcklnicmpfaaFeedc
import Derived.Test.YtpipcklnicmpfaaFeedd
namespace Go.Proofs.Ytpipcklnicmpfaa
open Go.RowKit
set_option linter.unusedVariables false
set_option linter.unusedSimpArgs false
theorem wp_same {c : Code} {l : Nat} {P : Program} {Q : Exit → Act → World → Prop} {a : Act} {w : World} {r1 : Code} (h : ∃ r, findLabel c l = some r ∧ r.wp P Q a w) (h1 : findLabel c l = some r1) : r1.wp P Q a w := by
  obtain ⟨r, e, hh⟩ := h
  rw [h1] at e
  injection e with e
  rw [e]; exact hh
theorem wp_same1 {c : Code} {l : Nat} {P : Program} {Q : Exit → Act → World → Prop} {a : Act} {w : World} {r1 : Code} (h : ∃ r, findLabel c l = some (.seq .skip r) ∧ r.wp P Q a w) (h1 : findLabel c l = some (.seq .skip r1)) : r1.wp P Q a w := by
  obtain ⟨r, e, hh⟩ := h
  rw [h1] at e
  injection e with e
  injection e with _ e
  rw [e]; exact hh
section
variable {w : World} {g B : Nat} {r : Option Nat} {h m : Int} {L : Bys} {i0 H : Nat}
theorem FI.many {W : World} {at_ : Nat} {ms : List Bys} {i : Nat} {out v : Value} (hf : FI w W g B r h m L i0 at_ ms i out v) : ms.length ≤ L.length ∧ i ≤ L.length := by
  have h1 := cut_many h m L
  have h2 := hf.cutE
  rw [h2] at h1
  simp only [Cut.after, List.length_append] at h1
  omega
set_option maxRecDepth 100000 in
set_option maxHeartbeats 400000 in
theorem pass1_any (hH : hsz h = H) (h1 : 1 ≤ h) (h4 : h ≤ 4) (m1 : 1 ≤ m) (hm : m ≤ 9999) (hL : L.length ≤ 1000000000) (hi : i0 ≤ 100000000000) (Q : Exit → Act → World → Prop)
    (HQ : Hid (∀ a W' out' v' e, a.tmps.getD 4 undef = out' → a.tmps.getD 5 undef = .int .i64 e → a.defers = [] → Fin_ w W' g B r h m (cut h m L).ms (cut h m L).err ⟨(cut h m L).rest, (cut h m L).err, i0 + (cut h m L).idle⟩ out' v' → e = (cut h m L).err → Q .ret a W'))
    (a : Act) (W : World) (hJ : J1 w g B r h m L i0 H a W) (r1 : Code) (hr : findLabel (scopeOf (Try.f26.body.getD .skip)) 1 = some (.seq .skip r1)) :
    r1.wp Try.prog (two (J0 w g B r h m L i0 H) (fun a' w' => J1 w g B r h m L i0 H a' w' ∧ μ1 L a' w' < μ1 L a W) Q) a W := by
  unfold J1 at hJ
  obtain ⟨at_, ms, i, out, v, hf, hF⟩ := hJ
  obtain ⟨u, rfl⟩ := frame_of hF
  obtain ⟨hk1, hk2⟩ := hf.many
  have HI : Hid ((i0 : Int) + (i : Int) ≤ 1000000000000) := Lib.hid (by omega)
  have hat := hf.hat
  have hp2 := hsz_pos h
  refine wp_same1 ?_ hr
  by_cases hs : L.length - at_ < H
  · exact pass_short hf hH hL HI hs _ Q (u 1) (u 2) (u 3) (u 4) (u 5) (u 8) (u 9) (u 11) (u 12) (u 13) (u 14) (u 15) (u 16) (u 17) (u 18) (u 19) (u 20) (u 21) (u 22) (u 23) (u 24) (u 25) (u 26) (u 27) (u 28) (u 29) (u 30) (u 31) (u 32) (u 33) (u 34) (u 35) (u 36) (u 37) (u 38) (u 39) (u 40) (u 41) (u 42) (u 43) (u 44) (u 45) (u 46) (u 47) (u 48) (u 49) (u 50) (u 51) (u 52) (u 53) (u 54) (u 55) (u 56) (u 57) (u 58) (u 59) (u 60) (u 61) (u 62) (u 63) (u 64) (u 65) (u 66) (u 67) (u 68) (u 69) (u 70) (u 71) (u 72) (u 73) (u 74) (u 75) (u 76) (u 77) (u 78) (u 79) (u 80) (u 81) (u 82) (u 83) (u 84) (u 85) (u 86) (u 87) (u 88) (u 89) (u 90) (u 91) (u 92) (u 93) (u 94) (u 95) (u 96) (u 97) (u 98) (u 99) (u 100) (u 101) (u 102) (u 103) (u 104) (u 105) (u 106) (u 107) (u 108) (u 109) (u 110) (u 111) (u 112) (u 113) (u 114) (u 115) (u 116) (u 117) (u 118) (u 119) (u 120) (u 121) (u 122) (u 123) (u 124) (u 125) (u 126) (u 127) (u 128) (u 129) (u 130) (u 131) (u 132) (u 133) (u 134) (u 135) (u 136) (u 137) (u 138) (u 139) (u 140) (u 141) (u 142) (u 143) (u 144) (u 145) (u 146) (u 147) (u 148) (u 149) (u 150) (u 151) (u 152)
  · obtain ⟨p, ok, hp⟩ : ∃ p ok, toldI h ((L.drop at_).take H) = (p, ok) := ⟨_, _, rfl⟩
    by_cases hok : ok = false
    · exact pass_bad hf hH hL HI h1 h4 hs p ok hp hok _ _ Q HQ (u 1) (u 2) (u 3) (u 4) (u 5) (u 8) (u 9) (u 11) (u 12) (u 13) (u 14) (u 15) (u 16) (u 17) (u 18) (u 19) (u 20) (u 21) (u 22) (u 23) (u 24) (u 25) (u 26) (u 27) (u 28) (u 29) (u 30) (u 31) (u 32) (u 33) (u 34) (u 35) (u 36) (u 37) (u 38) (u 39) (u 40) (u 41) (u 42) (u 43) (u 44) (u 45) (u 46) (u 47) (u 48) (u 49) (u 50) (u 51) (u 52) (u 53) (u 54) (u 55) (u 56) (u 57) (u 58) (u 59) (u 60) (u 61) (u 62) (u 63) (u 64) (u 65) (u 66) (u 67) (u 68) (u 69) (u 70) (u 71) (u 72) (u 73) (u 74) (u 75) (u 76) (u 77) (u 78) (u 79) (u 80) (u 81) (u 82) (u 83) (u 84) (u 85) (u 86) (u 87) (u 88) (u 89) (u 90) (u 91) (u 92) (u 93) (u 94) (u 95) (u 96) (u 97) (u 98) (u 99) (u 100) (u 101) (u 102) (u 103) (u 104) (u 105) (u 106) (u 107) (u 108) (u 109) (u 110) (u 111) (u 112) (u 113) (u 114) (u 115) (u 116) (u 117) (u 118) (u 119) (u 120) (u 121) (u 122) (u 123) (u 124) (u 125) (u 126) (u 127) (u 128) (u 129) (u 130) (u 131) (u 132) (u 133) (u 134) (u 135) (u 136) (u 137) (u 138) (u 139) (u 140) (u 141) (u 142) (u 143) (u 144) (u 145) (u 146) (u 147) (u 148) (u 149) (u 150) (u 151) (u 152)
    · have hok' : ok = true := by simpa using hok
      have hp0 : 0 ≤ p := by have := told_nn (h := h) (l := (L.drop at_).take H) (by rw [hp]; exact hok'); rw [hp] at this; exact this
      by_cases hlo : p ≤ m
      · by_cases hw : (L.length : Int) - (at_ : Int) < (H : Int) + p
        · exact pass_wait hf hH hL HI h1 h4 hs p ok hp hok' hlo hp0 hm hw _ Q (u 1) (u 2) (u 3) (u 4) (u 5) (u 8) (u 9) (u 11) (u 12) (u 13) (u 14) (u 15) (u 16) (u 17) (u 18) (u 19) (u 20) (u 21) (u 22) (u 23) (u 24) (u 25) (u 26) (u 27) (u 28) (u 29) (u 30) (u 31) (u 32) (u 33) (u 34) (u 35) (u 36) (u 37) (u 38) (u 39) (u 40) (u 41) (u 42) (u 43) (u 44) (u 45) (u 46) (u 47) (u 48) (u 49) (u 50) (u 51) (u 52) (u 53) (u 54) (u 55) (u 56) (u 57) (u 58) (u 59) (u 60) (u 61) (u 62) (u 63) (u 64) (u 65) (u 66) (u 67) (u 68) (u 69) (u 70) (u 71) (u 72) (u 73) (u 74) (u 75) (u 76) (u 77) (u 78) (u 79) (u 80) (u 81) (u 82) (u 83) (u 84) (u 85) (u 86) (u 87) (u 88) (u 89) (u 90) (u 91) (u 92) (u 93) (u 94) (u 95) (u 96) (u 97) (u 98) (u 99) (u 100) (u 101) (u 102) (u 103) (u 104) (u 105) (u 106) (u 107) (u 108) (u 109) (u 110) (u 111) (u 112) (u 113) (u 114) (u 115) (u 116) (u 117) (u 118) (u 119) (u 120) (u 121) (u 122) (u 123) (u 124) (u 125) (u 126) (u 127) (u 128) (u 129) (u 130) (u 131) (u 132) (u 133) (u 134) (u 135) (u 136) (u 137) (u 138) (u 139) (u 140) (u 141) (u 142) (u 143) (u 144) (u 145) (u 146) (u 147) (u 148) (u 149) (u 150) (u 151) (u 152)
        · have hmu : ∀ a' w', μ1 L a' w' < L.length - at_ → μ1 L a' w' < L.length - (at_ : Int).toNat := fun _ _ hh => by simpa using hh
          by_cases h0 : p = 0
          · subst h0
            exact pass_idle hf hH hL HI h1 h4 hs ok hp hok' hlo hm _ Q (u 1) (u 2) (u 3) (u 4) (u 5) (u 8) (u 9) (u 11) (u 12) (u 13) (u 14) (u 15) (u 16) (u 17) (u 18) (u 19) (u 20) (u 21) (u 22) (u 23) (u 24) (u 25) (u 26) (u 27) (u 28) (u 29) (u 30) (u 31) (u 32) (u 33) (u 34) (u 35) (u 36) (u 37) (u 38) (u 39) (u 40) (u 41) (u 42) (u 43) (u 44) (u 45) (u 46) (u 47) (u 48) (u 49) (u 50) (u 51) (u 52) (u 53) (u 54) (u 55) (u 56) (u 57) (u 58) (u 59) (u 60) (u 61) (u 62) (u 63) (u 64) (u 65) (u 66) (u 67) (u 68) (u 69) (u 70) (u 71) (u 72) (u 73) (u 74) (u 75) (u 76) (u 77) (u 78) (u 79) (u 80) (u 81) (u 82) (u 83) (u 84) (u 85) (u 86) (u 87) (u 88) (u 89) (u 90) (u 91) (u 92) (u 93) (u 94) (u 95) (u 96) (u 97) (u 98) (u 99) (u 100) (u 101) (u 102) (u 103) (u 104) (u 105) (u 106) (u 107) (u 108) (u 109) (u 110) (u 111) (u 112) (u 113) (u 114) (u 115) (u 116) (u 117) (u 118) (u 119) (u 120) (u 121) (u 122) (u 123) (u 124) (u 125) (u 126) (u 127) (u 128) (u 129) (u 130) (u 131) (u 132) (u 133) (u 134) (u 135) (u 136) (u 137) (u 138) (u 139) (u 140) (u 141) (u 142) (u 143) (u 144) (u 145) (u 146) (u 147) (u 148) (u 149) (u 150) (u 151) (u 152)
          · obtain ⟨q, rfl⟩ : ∃ q : Nat, p = (q : Int) := ⟨p.toNat, by omega⟩
            exact pass_msg hf hH hL HI h1 h4 hs q ok hp hok' hlo hm (by omega) (by omega) (Lib.hid (by omega)) _ Q (u 1) (u 2) (u 3) (u 4) (u 5) (u 8) (u 9) (u 11) (u 12) (u 13) (u 14) (u 15) (u 16) (u 17) (u 18) (u 19) (u 20) (u 21) (u 22) (u 23) (u 24) (u 25) (u 26) (u 27) (u 28) (u 29) (u 30) (u 31) (u 32) (u 33) (u 34) (u 35) (u 36) (u 37) (u 38) (u 39) (u 40) (u 41) (u 42) (u 43) (u 44) (u 45) (u 46) (u 47) (u 48) (u 49) (u 50) (u 51) (u 52) (u 53) (u 54) (u 55) (u 56) (u 57) (u 58) (u 59) (u 60) (u 61) (u 62) (u 63) (u 64) (u 65) (u 66) (u 67) (u 68) (u 69) (u 70) (u 71) (u 72) (u 73) (u 74) (u 75) (u 76) (u 77) (u 78) (u 79) (u 80) (u 81) (u 82) (u 83) (u 84) (u 85) (u 86) (u 87) (u 88) (u 89) (u 90) (u 91) (u 92) (u 93) (u 94) (u 95) (u 96) (u 97) (u 98) (u 99) (u 100) (u 101) (u 102) (u 103) (u 104) (u 105) (u 106) (u 107) (u 108) (u 109) (u 110) (u 111) (u 112) (u 113) (u 114) (u 115) (u 116) (u 117) (u 118) (u 119) (u 120) (u 121) (u 122) (u 123) (u 124) (u 125) (u 126) (u 127) (u 128) (u 129) (u 130) (u 131) (u 132) (u 133) (u 134) (u 135) (u 136) (u 137) (u 138) (u 139) (u 140) (u 141) (u 142) (u 143) (u 144) (u 145) (u 146) (u 147) (u 148) (u 149) (u 150) (u 151) (u 152)
      · exact pass_long hf hH hL HI h1 h4 hs p ok hp hok' (by omega) _ _ Q HQ (u 1) (u 2) (u 3) (u 4) (u 5) (u 8) (u 9) (u 11) (u 12) (u 13) (u 14) (u 15) (u 16) (u 17) (u 18) (u 19) (u 20) (u 21) (u 22) (u 23) (u 24) (u 25) (u 26) (u 27) (u 28) (u 29) (u 30) (u 31) (u 32) (u 33) (u 34) (u 35) (u 36) (u 37) (u 38) (u 39) (u 40) (u 41) (u 42) (u 43) (u 44) (u 45) (u 46) (u 47) (u 48) (u 49) (u 50) (u 51) (u 52) (u 53) (u 54) (u 55) (u 56) (u 57) (u 58) (u 59) (u 60) (u 61) (u 62) (u 63) (u 64) (u 65) (u 66) (u 67) (u 68) (u 69) (u 70) (u 71) (u 72) (u 73) (u 74) (u 75) (u 76) (u 77) (u 78) (u 79) (u 80) (u 81) (u 82) (u 83) (u 84) (u 85) (u 86) (u 87) (u 88) (u 89) (u 90) (u 91) (u 92) (u 93) (u 94) (u 95) (u 96) (u 97) (u 98) (u 99) (u 100) (u 101) (u 102) (u 103) (u 104) (u 105) (u 106) (u 107) (u 108) (u 109) (u 110) (u 111) (u 112) (u 113) (u 114) (u 115) (u 116) (u 117) (u 118) (u 119) (u 120) (u 121) (u 122) (u 123) (u 124) (u 125) (u 126) (u 127) (u 128) (u 129) (u 130) (u 131) (u 132) (u 133) (u 134) (u 135) (u 136) (u 137) (u 138) (u 139) (u 140) (u 141) (u 142) (u 143) (u 144) (u 145) (u 146) (u 147) (u 148) (u 149) (u 150) (u 151) (u 152)
set_option maxRecDepth 100000 in
set_option maxHeartbeats 400000 in
theorem pass0_any (hH : hsz h = H) (hL : L.length ≤ 1000000000) (hi : i0 ≤ 100000000000) (Q : Exit → Act → World → Prop)
    (HQ : Hid (∀ a W' out' v' e, a.tmps.getD 4 undef = out' → a.tmps.getD 5 undef = .int .i64 e → a.defers = [] → Fin_ w W' g B r h m (cut h m L).ms (cut h m L).err ⟨(cut h m L).rest, (cut h m L).err, i0 + (cut h m L).idle⟩ out' v' → e = (cut h m L).err → Q .ret a W'))
    (a : Act) (W : World) (hJ : J0 w g B r h m L i0 H a W) (r0 : Code) (hr : findLabel (scopeOf (Try.f26.body.getD .skip)) 0 = some r0) :
    r0.wp Try.prog (two (fun _ _ => False) (fun _ _ => False) Q) a W := by
  unfold J0 at hJ
  obtain ⟨at_, ms, i, out, v, hf, hc0, hF⟩ := hJ
  obtain ⟨u, rfl⟩ := frame_of hF
  obtain ⟨hk1, hk2⟩ := hf.many
  have HI : Hid ((i0 : Int) + (i : Int) ≤ 1000000000000) := Lib.hid (by omega)
  have hat := hf.hat
  refine wp_same ?_ hr
  rcases hf.row.2 with ⟨hv, _⟩ | ⟨k, cap, cur, hv, hBk, hrow, hle, hmax, hcl, htk⟩
  · exact pass_done_nil hf hH hL HI hv hc0 Q HQ (u 1) (u 2) (u 3) (u 4) (u 5) (u 8) (u 9) (u 11) (u 12) (u 13) (u 14) (u 15) (u 16) (u 17) (u 18) (u 19) (u 20) (u 21) (u 22) (u 23) (u 24) (u 25) (u 26) (u 27) (u 28) (u 29) (u 30) (u 31) (u 32) (u 33) (u 34) (u 35) (u 36) (u 37) (u 38) (u 39) (u 40) (u 41) (u 42) (u 43) (u 44) (u 45) (u 46) (u 47) (u 48) (u 49) (u 50) (u 51) (u 52) (u 53) (u 54) (u 55) (u 56) (u 57) (u 58) (u 59) (u 60) (u 61) (u 62) (u 63) (u 64) (u 65) (u 66) (u 67) (u 68) (u 69) (u 70) (u 71) (u 72) (u 73) (u 74) (u 75) (u 76) (u 77) (u 78) (u 79) (u 80) (u 81) (u 82) (u 83) (u 84) (u 85) (u 86) (u 87) (u 88) (u 89) (u 90) (u 91) (u 92) (u 93) (u 94) (u 95) (u 96) (u 97) (u 98) (u 99) (u 100) (u 101) (u 102) (u 103) (u 104) (u 105) (u 106) (u 107) (u 108) (u 109) (u 110) (u 111) (u 112) (u 113) (u 114) (u 115) (u 116) (u 117) (u 118) (u 119) (u 120) (u 121) (u 122) (u 123) (u 124) (u 125) (u 126) (u 127) (u 128) (u 129) (u 130) (u 131) (u 132) (u 133) (u 134) (u 135) (u 136) (u 137) (u 138) (u 139) (u 140) (u 141) (u 142) (u 143) (u 144) (u 145) (u 146) (u 147) (u 148) (u 149) (u 150) (u 151) (u 152)
  · have hrow' : W.heap[k]? = some (.cells (List.toArray cur.toList) 5 (0, 0)) := by simpa using hrow
    have hcl' : Hid (cur.toList.length = cap) := Lib.hid (by simpa using hcl)
    have htk' : Hid (cur.toList.take L.length = bcells L) := Lib.hid (by simpa using htk)
    by_cases hca : at_ < cap
    · exact pass_done_cut hf hH hL HI k cap cur.toList hv hrow' hcl' htk' hle hmax hBk hca hc0 Q HQ (u 1) (u 2) (u 3) (u 4) (u 5) (u 8) (u 9) (u 11) (u 12) (u 13) (u 14) (u 15) (u 16) (u 17) (u 18) (u 19) (u 20) (u 21) (u 22) (u 23) (u 24) (u 25) (u 26) (u 27) (u 28) (u 29) (u 30) (u 31) (u 32) (u 33) (u 34) (u 35) (u 36) (u 37) (u 38) (u 39) (u 40) (u 41) (u 42) (u 43) (u 44) (u 45) (u 46) (u 47) (u 48) (u 49) (u 50) (u 51) (u 52) (u 53) (u 54) (u 55) (u 56) (u 57) (u 58) (u 59) (u 60) (u 61) (u 62) (u 63) (u 64) (u 65) (u 66) (u 67) (u 68) (u 69) (u 70) (u 71) (u 72) (u 73) (u 74) (u 75) (u 76) (u 77) (u 78) (u 79) (u 80) (u 81) (u 82) (u 83) (u 84) (u 85) (u 86) (u 87) (u 88) (u 89) (u 90) (u 91) (u 92) (u 93) (u 94) (u 95) (u 96) (u 97) (u 98) (u 99) (u 100) (u 101) (u 102) (u 103) (u 104) (u 105) (u 106) (u 107) (u 108) (u 109) (u 110) (u 111) (u 112) (u 113) (u 114) (u 115) (u 116) (u 117) (u 118) (u 119) (u 120) (u 121) (u 122) (u 123) (u 124) (u 125) (u 126) (u 127) (u 128) (u 129) (u 130) (u 131) (u 132) (u 133) (u 134) (u 135) (u 136) (u 137) (u 138) (u 139) (u 140) (u 141) (u 142) (u 143) (u 144) (u 145) (u 146) (u 147) (u 148) (u 149) (u 150) (u 151) (u 152)
    · exact pass_done_all hf hH hL HI k cap cur.toList hv hrow' hcl' htk' hle hmax hBk (by omega) hc0 Q HQ (u 1) (u 2) (u 3) (u 4) (u 5) (u 8) (u 9) (u 11) (u 12) (u 13) (u 14) (u 15) (u 16) (u 17) (u 18) (u 19) (u 20) (u 21) (u 22) (u 23) (u 24) (u 25) (u 26) (u 27) (u 28) (u 29) (u 30) (u 31) (u 32) (u 33) (u 34) (u 35) (u 36) (u 37) (u 38) (u 39) (u 40) (u 41) (u 42) (u 43) (u 44) (u 45) (u 46) (u 47) (u 48) (u 49) (u 50) (u 51) (u 52) (u 53) (u 54) (u 55) (u 56) (u 57) (u 58) (u 59) (u 60) (u 61) (u 62) (u 63) (u 64) (u 65) (u 66) (u 67) (u 68) (u 69) (u 70) (u 71) (u 72) (u 73) (u 74) (u 75) (u 76) (u 77) (u 78) (u 79) (u 80) (u 81) (u 82) (u 83) (u 84) (u 85) (u 86) (u 87) (u 88) (u 89) (u 90) (u 91) (u 92) (u 93) (u 94) (u 95) (u 96) (u 97) (u 98) (u 99) (u 100) (u 101) (u 102) (u 103) (u 104) (u 105) (u 106) (u 107) (u 108) (u 109) (u 110) (u 111) (u 112) (u 113) (u 114) (u 115) (u 116) (u 117) (u 118) (u 119) (u 120) (u 121) (u 122) (u 123) (u 124) (u 125) (u 126) (u 127) (u 128) (u 129) (u 130) (u 131) (u 132) (u 133) (u 134) (u 135) (u 136) (u 137) (u 138) (u 139) (u 140) (u 141) (u 142) (u 143) (u 144) (u 145) (u 146) (u 147) (u 148) (u 149) (u 150) (u 151) (u 152)
end
end Go.Proofs.Ytpipcklnicmpfaa
