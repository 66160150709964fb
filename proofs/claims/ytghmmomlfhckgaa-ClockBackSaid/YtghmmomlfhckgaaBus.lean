/-
  Business: the program's and the document's.
-/
import Derived.Test.YtghmmomlfhckgaaStamp
namespace Go.Proofs.Ytghmmomlfhckgaa
open Go.RowKit
set_option linter.unusedVariables false
set_option linter.unusedSimpArgs false
theorem Blk.store6 {w : World} {g : Nat} {t : TypeId} {x0 x1 x2 x3 x4 x5 : Value} (h : Blk w g t #[x0, x1, x2, x3, x4, x5]) (a b c d e f : Value) :
    Blk ((((((w.setCell ⟨g, 0, none⟩ a).setCell ⟨g, 1, none⟩ b).setCell ⟨g, 2, none⟩ c).setCell ⟨g, 3, none⟩ d).setCell ⟨g, 4, none⟩ e).setCell ⟨g, 5, none⟩ f) g t #[a, b, c, d, e, f] := ((((((h.set_ 0 a).set_ 1 b).set_ 2 c).set_ 3 d).set_ 4 e).set_ 5 f)
theorem below_store6 {B : Nat} {a w : World} {g : Nat} (h : Below B a w) (hg : B ≤ g) (u0 u1 u2 u3 u4 u5 : Value) :
    Below B a ((((((w.setCell ⟨g, 0, none⟩ u0).setCell ⟨g, 1, none⟩ u1).setCell ⟨g, 2, none⟩ u2).setCell ⟨g, 3, none⟩ u3).setCell ⟨g, 4, none⟩ u4).setCell ⟨g, 5, none⟩ u5) :=
  (((((h.setCell (p := ⟨g, 0, none⟩) hg _).setCell (p := ⟨g, 1, none⟩) hg _).setCell (p := ⟨g, 2, none⟩) hg _).setCell (p := ⟨g, 3, none⟩) hg _).setCell (p := ⟨g, 4, none⟩) hg _).setCell (p := ⟨g, 5, none⟩) hg _

noncomputable def busT (t hr : Int) : ByteArray :=
  if t < 0 ∨ 3155759999 < t then { data := #[] } else if hr < 0 ∨ 23 < hr then { data := #[] }
  else if 0 < hr ∧ hr ≤ t / 3600 % 24 then (if t + 86400 ≤ 3155759999 then busOf (t + 86400) else { data := #[] }) else busOf t
def busE (t hr : Int) : Int :=
  if t < 0 ∨ 3155759999 < t then 80 else if hr < 0 ∨ 23 < hr then 1
  else if 0 < hr ∧ hr ≤ t / 3600 % 24 then (if t + 86400 ≤ 3155759999 then 0 else 80) else 0
theorem business_no (t hr : Int) (w : World) (h : t < 0 ∨ 3155759999 < t) : Calls Try.prog 30 #[.int .i64 t, .int .i64 hr] w fun e w' => e = .returned (.tuple #[.string { data := #[] }, .int .i64 80]) ∧ Below w.heap.size w w' := by
  have H := Lib.hid h
  clear h
  go_enter Try.func30, Try.ntmps30
  go_wp2_with (go_at_call 14; refine (date_no t _ H.out).mono ?_; rintro e w1 ⟨rfl, hb1⟩)
  go_ret2
  exact ⟨rfl, hb1.alloc hb1.size _⟩
theorem business_arg (t hr : Int) (w : World) (h0 : 0 ≤ t) (h1 : t ≤ 3155759999) (h : hr < 0 ∨ 23 < hr) : Calls Try.prog 30 #[.int .i64 t, .int .i64 hr] w fun e w' => e = .returned (.tuple #[.string { data := #[] }, .int .i64 1]) ∧ Below w.heap.size w w' := by
  rcases h with h | h
  all_goals
    go_enter Try.func30, Try.ntmps30
    go_wp2_with (go_at_call 14; refine (date_ok t _ h0 h1).mono ?_; rintro e w1 ⟨y, m, d, hd, rfl, hb1⟩; simp only [dateV]; clear hd)
    go_ret2
    exact ⟨rfl, hb1.alloc hb1.size _⟩
set_option maxHeartbeats 1600000 in
theorem business_same_ok (t hr : Int) (w : World) (h0 : 0 ≤ t) (h1 : t ≤ 3155759999) (b0 : 0 ≤ hr) (b1 : hr ≤ 23) (h : hr = 0 ∨ t / 3600 % 24 < hr) : Calls Try.prog 30 #[.int .i64 t, .int .i64 hr] w fun e w' => ∃ y m d, IsDay (t / 86400) y m d ∧ e = .returned (.tuple #[.string (busV m d), .int .i64 0]) ∧ Below w.heap.size w w' := by
  obtain ⟨hh, ehh⟩ : ∃ hh, t / 3600 % 24 = hh := ⟨_, rfl⟩
  obtain ⟨ii, eii⟩ : ∃ ii, t / 60 % 60 = ii := ⟨_, rfl⟩
  obtain ⟨ss, ess⟩ : ∃ ss, t % 60 = ss := ⟨_, rfl⟩
  have hh0 : 0 ≤ hh := by omega
  have hi0 : 0 ≤ ii := by omega
  have hs0 : 0 ≤ ss := by omega
  have hh1 : hh ≤ 23 := by omega
  have hi1 : ii ≤ 59 := by omega
  have hs1 : ss ≤ 59 := by omega
  try rw [ehh, eii, ess]
  have EH := Lib.hid ehh
  have EI := Lib.hid eii
  have ES := Lib.hid ess
  clear ehh eii ess
  rw [EH.out] at h
  rcases h with rfl | h
  all_goals
    go_enter Try.func30, Try.ntmps30
    go_wp2_with (go_at_call 14; refine (date_ok t _ h0 h1).mono ?_; rintro e w1 ⟨y, m, d, hd, rfl, hb1⟩; have HD := Lib.hid hd; clear hd; simp only [dateV]; rw [EH.out, EI.out, ES.out])
    have hd := HD.out
    have dm := dim_hi y m
    have al := ahd_lo y m
    have ah := ahd_hi y m
    obtain ⟨y0, y1, m0, m1, d0, d1', -⟩ := hd
    have hd9 : d ≤ 31 := by omega
    clear d1' dm
    have hX := Blk.new w1 23 #[.int .i64 y, .int .i64 m, .int .i64 d, .int .i64 hh, .int .i64 ii, .int .i64 ss]
    have hbx := hb1.alloc hb1.size (.cells #[.int .i64 y, .int .i64 m, .int .i64 d, .int .i64 hh, .int .i64 ii, .int .i64 ss] 23)
    obtain ⟨g, hg⟩ : ∃ g, g = w1.heap.size := ⟨_, rfl⟩
    obtain ⟨w2, hw2⟩ : ∃ w2, w2 = w1.alloc (.cells #[.int .i64 y, .int .i64 m, .int .i64 d, .int .i64 hh, .int .i64 ii, .int .i64 ss] 23) := ⟨_, rfl⟩
    rw [← hw2, ← hg]
    rw [← hw2, ← hg] at hX
    rw [← hw2] at hbx
    have x0 := hX.cell 0
    have x1 := hX.cell 1
    have x2 := hX.cell 2
    have x3 := hX.cell 3
    have x4 := hX.cell 4
    have x5 := hX.cell 5
    have xs := hX.lt
    simp at x0 x1 x2 x3 x4 x5
    have hsz : w.heap.size ≤ w2.heap.size := hbx.size
    have hBg : w.heap.size ≤ g := by rw [hg]; exact hb1.size
    clear hw2 hg hX hb1
    have S1 := fun n => d2_size n
    go_region_held3 (fun w' => w'.cell? ⟨g, 0, none⟩ = some (.int .i64 y) ∧ w'.cell? ⟨g, 1, none⟩ = some (.int .i64 m) ∧ w'.cell? ⟨g, 2, none⟩ = some (.int .i64 d) ∧ w'.cell? ⟨g, 3, none⟩ = some (.int .i64 hh) ∧ w'.cell? ⟨g, 4, none⟩ = some (.int .i64 ii) ∧ w'.cell? ⟨g, 5, none⟩ = some (.int .i64 ss) ∧ g < w'.heap.size ∧ w.heap.size ≤ w'.heap.size ∧ Below w.heap.size w w')
      (first | exact keepD (by assumption) (by assumption) | exact keepD (keep_drew (by assumption)) (by assumption) | exact keep_drew ⟨x0, x1, x2, x3, x4, x5, xs, hsz, hbx⟩ | exact keep_drew (by assumption) | assumption)
      ((first | (go_at_call 43; refine (written_2 _ _ (by omega) (by omega)).mono ?_; rintro e w' ⟨rfl, hb⟩)))
    rename_i HL
    clear S1
    go_wp2
    go_ret2
    exact ⟨y, m, d, HD.out, rfl, HL.2.2.2.2.2.2.2.2⟩
theorem business_late (t hr : Int) (w : World) (h0 : 0 ≤ t) (h1 : t ≤ 3155759999) (b0 : 0 < hr) (b1 : hr ≤ 23) (h : hr ≤ t / 3600 % 24) (hx : 3155759999 < t + 86400) : Calls Try.prog 30 #[.int .i64 t, .int .i64 hr] w fun e w' => e = .returned (.tuple #[.string { data := #[] }, .int .i64 80]) ∧ Below w.heap.size w w' := by
  obtain ⟨hh, ehh⟩ : ∃ hh, t / 3600 % 24 = hh := ⟨_, rfl⟩
  obtain ⟨ii, eii⟩ : ∃ ii, t / 60 % 60 = ii := ⟨_, rfl⟩
  obtain ⟨ss, ess⟩ : ∃ ss, t % 60 = ss := ⟨_, rfl⟩
  have hh0 : 0 ≤ hh := by omega
  have hi0 : 0 ≤ ii := by omega
  have hs0 : 0 ≤ ss := by omega
  have hh1 : hh ≤ 23 := by omega
  have hi1 : ii ≤ 59 := by omega
  have hs1 : ss ≤ 59 := by omega
  try rw [ehh, eii, ess]
  have EH := Lib.hid ehh
  have EI := Lib.hid eii
  have ES := Lib.hid ess
  clear ehh eii ess
  rw [EH.out] at h
  go_enter Try.func30, Try.ntmps30
  go_wp2_with (first
    | (go_at_call_of 14 (Value.int IntKind.i64 t); refine (date_ok t _ h0 h1).mono ?_; rintro e w1 ⟨y, m, d, hd, rfl, hb1⟩; clear hd; simp only [dateV]; rw [EH.out, EI.out, ES.out]; have hX := Blk.new w1 23 #[.int .i64 y, .int .i64 m, .int .i64 d, .int .i64 hh, .int .i64 ii, .int .i64 ss]; have hbx := hb1.alloc hb1.size (.cells #[.int .i64 y, .int .i64 m, .int .i64 d, .int .i64 hh, .int .i64 ii, .int .i64 ss] 23))
    | (go_at_call 14; refine (date_no (t + 86400) _ (.inr hx)).mono ?_; rintro e w3 ⟨rfl, hb3⟩; have hX3 := hX.below hb3 (by simp); have x0 := hX3.cell 0; have x1 := hX3.cell 1; have x2 := hX3.cell 2; have x3 := hX3.cell 3; have x4 := hX3.cell 4; have x5 := hX3.cell 5; have f0 := hX3.frozen 0; have f1 := hX3.frozen 1; have f2 := hX3.frozen 2; have f3 := hX3.frozen 3; have f4 := hX3.frozen 4; have f5 := hX3.frozen 5; simp at x0 x1 x2 x3 x4 x5; have hb4 := below_store6 (hbx.trans (hb3.mono hbx.size)) hb1.size (.int .i64 0) (.int .i64 0) (.int .i64 0) (.int .i64 0) (.int .i64 0) (.int .i64 0); clear hX hX3))
  go_ret2
  exact ⟨rfl, hb4⟩
set_option maxHeartbeats 1600000 in
theorem business_next_ok (t hr : Int) (w : World) (h0 : 0 ≤ t) (h1 : t ≤ 3155759999) (b0 : 0 < hr) (b1 : hr ≤ 23) (h : hr ≤ t / 3600 % 24) (hx : t + 86400 ≤ 3155759999) : Calls Try.prog 30 #[.int .i64 t, .int .i64 hr] w fun e w' => ∃ y m d, IsDay ((t + 86400) / 86400) y m d ∧ e = .returned (.tuple #[.string (busV m d), .int .i64 0]) ∧ Below w.heap.size w w' := by
  obtain ⟨hh, ehh⟩ : ∃ hh, t / 3600 % 24 = hh := ⟨_, rfl⟩
  obtain ⟨ii, eii⟩ : ∃ ii, t / 60 % 60 = ii := ⟨_, rfl⟩
  obtain ⟨ss, ess⟩ : ∃ ss, t % 60 = ss := ⟨_, rfl⟩
  have hh0 : 0 ≤ hh := by omega
  have hi0 : 0 ≤ ii := by omega
  have hs0 : 0 ≤ ss := by omega
  have hh1 : hh ≤ 23 := by omega
  have hi1 : ii ≤ 59 := by omega
  have hs1 : ss ≤ 59 := by omega
  try rw [ehh, eii, ess]
  have EH := Lib.hid ehh
  have EI := Lib.hid eii
  have ES := Lib.hid ess
  clear ehh eii ess
  rw [EH.out] at h
  have k0 : 0 ≤ t + 86400 := by omega
  obtain ⟨jh, ejh⟩ : ∃ jh, (t + 86400) / 3600 % 24 = jh := ⟨_, rfl⟩
  obtain ⟨ji, eji⟩ : ∃ ji, (t + 86400) / 60 % 60 = ji := ⟨_, rfl⟩
  obtain ⟨js, ejs⟩ : ∃ js, (t + 86400) % 60 = js := ⟨_, rfl⟩
  have FH := Lib.hid ejh
  have FI := Lib.hid eji
  have FS := Lib.hid ejs
  clear ejh eji ejs
  go_enter Try.func30, Try.ntmps30
  go_wp2_with (first
    | (go_at_call_of 14 (Value.int IntKind.i64 t); refine (date_ok t _ h0 h1).mono ?_; rintro e w1 ⟨y', m', d', hd, rfl, hb1⟩; clear hd; simp only [dateV]; rw [EH.out, EI.out, ES.out]; have hX := Blk.new w1 23 #[.int .i64 y', .int .i64 m', .int .i64 d', .int .i64 hh, .int .i64 ii, .int .i64 ss]; have hbx := hb1.alloc hb1.size (.cells #[.int .i64 y', .int .i64 m', .int .i64 d', .int .i64 hh, .int .i64 ii, .int .i64 ss] 23))
    | (go_at_call 14; refine (date_ok (t + 86400) _ k0 hx).mono ?_; rintro e w3 ⟨y, m, d, hd, rfl, hb3⟩; have HD := Lib.hid hd; clear hd; simp only [dateV]; rw [FH.out, FI.out, FS.out]; have hX3 := hX.below hb3 (by simp); have x0 := hX3.cell 0; have x1 := hX3.cell 1; have x2 := hX3.cell 2; have x3 := hX3.cell 3; have x4 := hX3.cell 4; have x5 := hX3.cell 5; have f0 := hX3.frozen 0; have f1 := hX3.frozen 1; have f2 := hX3.frozen 2; have f3 := hX3.frozen 3; have f4 := hX3.frozen 4; have f5 := hX3.frozen 5; simp at x0 x1 x2 x3 x4 x5; have hb4 := below_store6 (hbx.trans (hb3.mono hbx.size)) hb1.size (.int .i64 y) (.int .i64 m) (.int .i64 d) (.int .i64 jh) (.int .i64 ji) (.int .i64 js); have hX4 := hX3.store6 (.int .i64 y) (.int .i64 m) (.int .i64 d) (.int .i64 jh) (.int .i64 ji) (.int .i64 js)))
  have hd := HD.out
  have dm := dim_hi y m
  obtain ⟨y0, y1, m0, m1, d0, d1', -⟩ := hd
  have hd9 : d ≤ 31 := by omega
  obtain ⟨g, hg⟩ : ∃ g, g = w1.heap.size := ⟨_, rfl⟩
  rw [← hg] at hb4 hX4
  rw [← hg]
  obtain ⟨w2, hw2⟩ : ∃ w2, w2 = ((((((w3.setCell ⟨g, 0, none⟩ (.int .i64 y)).setCell ⟨g, 1, none⟩ (.int .i64 m)).setCell ⟨g, 2, none⟩ (.int .i64 d)).setCell ⟨g, 3, none⟩ (.int .i64 jh)).setCell ⟨g, 4, none⟩ (.int .i64 ji)).setCell ⟨g, 5, none⟩ (.int .i64 js)) := ⟨_, rfl⟩
  rw [← hw2] at hb4 hX4
  rw [← hw2]
  clear x0 x1 x2 x3 x4 x5 f0 f1 f2 f3 f4 f5 hX hX3 d1' dm hw2 hg hbx hb3 hb1
  have hbx := hb4
  have x0 := hX4.cell 0
  have x1 := hX4.cell 1
  have x2 := hX4.cell 2
  have x3 := hX4.cell 3
  have x4 := hX4.cell 4
  have x5 := hX4.cell 5
  have xs := hX4.lt
  simp at x0 x1 x2 x3 x4 x5
  have hsz : w.heap.size ≤ w2.heap.size := hbx.size
  clear hX4 hb4
  have S1 := fun n => d2_size n
  go_region_held3 (fun w' => w'.cell? ⟨g, 0, none⟩ = some (.int .i64 y) ∧ w'.cell? ⟨g, 1, none⟩ = some (.int .i64 m) ∧ w'.cell? ⟨g, 2, none⟩ = some (.int .i64 d) ∧ w'.cell? ⟨g, 3, none⟩ = some (.int .i64 jh) ∧ w'.cell? ⟨g, 4, none⟩ = some (.int .i64 ji) ∧ w'.cell? ⟨g, 5, none⟩ = some (.int .i64 js) ∧ g < w'.heap.size ∧ w.heap.size ≤ w'.heap.size ∧ Below w.heap.size w w')
    (first | exact keepD (by assumption) (by assumption) | exact keepD (keep_drew (by assumption)) (by assumption) | exact keep_drew ⟨x0, x1, x2, x3, x4, x5, xs, hsz, hbx⟩ | exact keep_drew (by assumption) | assumption)
    ((first | (go_at_call 43; refine (written_2 _ _ (by omega) (by omega)).mono ?_; rintro e w' ⟨rfl, hb⟩)))
  rename_i HL
  clear S1
  go_wp2
  go_ret2
  exact ⟨y, m, d, HD.out, rfl, HL.2.2.2.2.2.2.2.2⟩
theorem business_same (t hr : Int) (w : World) (h0 : 0 ≤ t) (h1 : t ≤ 3155759999) (b0 : 0 ≤ hr) (b1 : hr ≤ 23) (h : hr = 0 ∨ t / 3600 % 24 < hr) : Calls Try.prog 30 #[.int .i64 t, .int .i64 hr] w fun e w' => e = .returned (.tuple #[.string (busOf t), .int .i64 0]) ∧ Below w.heap.size w w' :=
  (business_same_ok t hr w h0 h1 b0 b1 h).mono fun e w' ⟨y, m, d, hd, he, hb⟩ => by
    obtain ⟨e1, e2, e3⟩ := day_is hd
    subst e1 e2 e3
    exact ⟨he, hb⟩
theorem business_next (t hr : Int) (w : World) (h0 : 0 ≤ t) (h1 : t ≤ 3155759999) (b0 : 0 < hr) (b1 : hr ≤ 23) (h : hr ≤ t / 3600 % 24) (hx : t + 86400 ≤ 3155759999) : Calls Try.prog 30 #[.int .i64 t, .int .i64 hr] w fun e w' => e = .returned (.tuple #[.string (busOf (t + 86400)), .int .i64 0]) ∧ Below w.heap.size w w' :=
  (business_next_ok t hr w h0 h1 b0 b1 h hx).mono fun e w' ⟨y, m, d, hd, he, hb⟩ => by
    obtain ⟨e1, e2, e3⟩ := day_is hd
    subst e1 e2 e3
    exact ⟨he, hb⟩
/-- What is told: text and error. -/
theorem business_any (t hr : Int) (w : World) : Calls Try.prog 30 #[.int .i64 t, .int .i64 hr] w fun e w' => e = .returned (.tuple #[.string (busT t hr), .int .i64 (busE t hr)]) ∧ Below w.heap.size w w' := by
  unfold busT busE
  by_cases h0 : t < 0 ∨ 3155759999 < t
  · rw [if_pos h0, if_pos h0]; exact business_no t hr w h0
  rw [if_neg h0, if_neg h0]
  by_cases h1 : hr < 0 ∨ 23 < hr
  · rw [if_pos h1, if_pos h1]; exact business_arg t hr w (by omega) (by omega) h1
  rw [if_neg h1, if_neg h1]
  by_cases h2 : 0 < hr ∧ hr ≤ t / 3600 % 24
  · rw [if_pos h2, if_pos h2]
    by_cases h3 : t + 86400 ≤ 3155759999
    · rw [if_pos h3, if_pos h3]; exact business_next t hr w (by omega) (by omega) h2.1 (by omega) h2.2 h3
    · rw [if_neg h3, if_neg h3]; exact business_late t hr w (by omega) (by omega) h2.1 (by omega) h2.2 (by omega)
  · rw [if_neg h2, if_neg h2]; exact business_same t hr w (by omega) (by omega) (by omega) (by omega) (by omega)

theorem rbusiness_no (t hr : Int) (w : World) (h : t < 0 ∨ 3155759999 < t) : Calls Try.prog 31 #[.int .i64 t, .int .i64 hr] w fun e w' => e = .returned (.tuple #[.string { data := #[] }, .int .i64 80]) ∧ Below w.heap.size w w' := by
  have H := Lib.hid h
  clear h
  go_enter Try.func31, Try.ntmps31
  go_wp2_with (go_at_call 15; refine (rdate_no t _ H.out).mono ?_; rintro e w1 ⟨rfl, hb1⟩)
  go_ret2
  exact ⟨rfl, hb1.alloc hb1.size _⟩
theorem rbusiness_arg (t hr : Int) (w : World) (h0 : 0 ≤ t) (h1 : t ≤ 3155759999) (h : hr < 0 ∨ 23 < hr) : Calls Try.prog 31 #[.int .i64 t, .int .i64 hr] w fun e w' => e = .returned (.tuple #[.string { data := #[] }, .int .i64 1]) ∧ Below w.heap.size w w' := by
  rcases h with h | h
  all_goals
    go_enter Try.func31, Try.ntmps31
    go_wp2_with (go_at_call 15; refine (rdate_ok t _ h0 h1).mono ?_; rintro e w1 ⟨y, m, d, hd, rfl, hb1⟩; simp only [dateV]; clear hd)
    go_ret2
    exact ⟨rfl, hb1.alloc hb1.size _⟩
set_option maxHeartbeats 1600000 in
theorem rbusiness_same_ok (t hr : Int) (w : World) (h0 : 0 ≤ t) (h1 : t ≤ 3155759999) (b0 : 0 ≤ hr) (b1 : hr ≤ 23) (h : hr = 0 ∨ t / 3600 % 24 < hr) : Calls Try.prog 31 #[.int .i64 t, .int .i64 hr] w fun e w' => ∃ y m d, IsDay (t / 86400) y m d ∧ e = .returned (.tuple #[.string (busV m d), .int .i64 0]) ∧ Below w.heap.size w w' := by
  obtain ⟨hh, ehh⟩ : ∃ hh, t / 3600 % 24 = hh := ⟨_, rfl⟩
  obtain ⟨ii, eii⟩ : ∃ ii, t / 60 % 60 = ii := ⟨_, rfl⟩
  obtain ⟨ss, ess⟩ : ∃ ss, t % 60 = ss := ⟨_, rfl⟩
  have hh0 : 0 ≤ hh := by omega
  have hi0 : 0 ≤ ii := by omega
  have hs0 : 0 ≤ ss := by omega
  have hh1 : hh ≤ 23 := by omega
  have hi1 : ii ≤ 59 := by omega
  have hs1 : ss ≤ 59 := by omega
  try rw [ehh, eii, ess]
  have EH := Lib.hid ehh
  have EI := Lib.hid eii
  have ES := Lib.hid ess
  clear ehh eii ess
  rw [EH.out] at h
  rcases h with rfl | h
  all_goals
    go_enter Try.func31, Try.ntmps31
    go_wp2_with (go_at_call 15; refine (rdate_ok t _ h0 h1).mono ?_; rintro e w1 ⟨y, m, d, hd, rfl, hb1⟩; have HD := Lib.hid hd; clear hd; simp only [dateV]; rw [EH.out, EI.out, ES.out])
    have hd := HD.out
    have dm := dim_hi y m
    have al := ahd_lo y m
    have ah := ahd_hi y m
    obtain ⟨y0, y1, m0, m1, d0, d1', -⟩ := hd
    have hd9 : d ≤ 31 := by omega
    clear d1' dm
    have hX := Blk.new w1 23 #[.int .i64 y, .int .i64 m, .int .i64 d, .int .i64 hh, .int .i64 ii, .int .i64 ss]
    have hbx := hb1.alloc hb1.size (.cells #[.int .i64 y, .int .i64 m, .int .i64 d, .int .i64 hh, .int .i64 ii, .int .i64 ss] 23)
    obtain ⟨g, hg⟩ : ∃ g, g = w1.heap.size := ⟨_, rfl⟩
    obtain ⟨w2, hw2⟩ : ∃ w2, w2 = w1.alloc (.cells #[.int .i64 y, .int .i64 m, .int .i64 d, .int .i64 hh, .int .i64 ii, .int .i64 ss] 23) := ⟨_, rfl⟩
    rw [← hw2, ← hg]
    rw [← hw2, ← hg] at hX
    rw [← hw2] at hbx
    have x0 := hX.cell 0
    have x1 := hX.cell 1
    have x2 := hX.cell 2
    have x3 := hX.cell 3
    have x4 := hX.cell 4
    have x5 := hX.cell 5
    have xs := hX.lt
    simp at x0 x1 x2 x3 x4 x5
    have hsz : w.heap.size ≤ w2.heap.size := hbx.size
    have hBg : w.heap.size ≤ g := by rw [hg]; exact hb1.size
    clear hw2 hg hX hb1
    have S1 := fun n => d2_size n
    go_region_held3 (fun w' => w'.cell? ⟨g, 0, none⟩ = some (.int .i64 y) ∧ w'.cell? ⟨g, 1, none⟩ = some (.int .i64 m) ∧ w'.cell? ⟨g, 2, none⟩ = some (.int .i64 d) ∧ w'.cell? ⟨g, 3, none⟩ = some (.int .i64 hh) ∧ w'.cell? ⟨g, 4, none⟩ = some (.int .i64 ii) ∧ w'.cell? ⟨g, 5, none⟩ = some (.int .i64 ss) ∧ g < w'.heap.size ∧ w.heap.size ≤ w'.heap.size ∧ Below w.heap.size w w')
      (first | exact keepD (by assumption) (by assumption) | exact keepD (keep_drew (by assumption)) (by assumption) | exact keep_drew ⟨x0, x1, x2, x3, x4, x5, xs, hsz, hbx⟩ | exact keep_drew (by assumption) | assumption)
      ((first | (go_at_call 44; refine (rtwo_any _ _ (by omega) (by omega)).mono ?_; rintro e w' ⟨rfl, hb⟩)))
    rename_i HL
    clear S1
    go_wp2
    go_ret2
    exact ⟨y, m, d, HD.out, rfl, HL.2.2.2.2.2.2.2.2⟩
theorem rbusiness_late (t hr : Int) (w : World) (h0 : 0 ≤ t) (h1 : t ≤ 3155759999) (b0 : 0 < hr) (b1 : hr ≤ 23) (h : hr ≤ t / 3600 % 24) (hx : 3155759999 < t + 86400) : Calls Try.prog 31 #[.int .i64 t, .int .i64 hr] w fun e w' => e = .returned (.tuple #[.string { data := #[] }, .int .i64 80]) ∧ Below w.heap.size w w' := by
  obtain ⟨hh, ehh⟩ : ∃ hh, t / 3600 % 24 = hh := ⟨_, rfl⟩
  obtain ⟨ii, eii⟩ : ∃ ii, t / 60 % 60 = ii := ⟨_, rfl⟩
  obtain ⟨ss, ess⟩ : ∃ ss, t % 60 = ss := ⟨_, rfl⟩
  have hh0 : 0 ≤ hh := by omega
  have hi0 : 0 ≤ ii := by omega
  have hs0 : 0 ≤ ss := by omega
  have hh1 : hh ≤ 23 := by omega
  have hi1 : ii ≤ 59 := by omega
  have hs1 : ss ≤ 59 := by omega
  try rw [ehh, eii, ess]
  have EH := Lib.hid ehh
  have EI := Lib.hid eii
  have ES := Lib.hid ess
  clear ehh eii ess
  rw [EH.out] at h
  go_enter Try.func31, Try.ntmps31
  go_wp2_with (first
    | (go_at_call_of 15 (Value.int IntKind.i64 t); refine (rdate_ok t _ h0 h1).mono ?_; rintro e w1 ⟨y, m, d, hd, rfl, hb1⟩; clear hd; simp only [dateV]; rw [EH.out, EI.out, ES.out]; have hX := Blk.new w1 23 #[.int .i64 y, .int .i64 m, .int .i64 d, .int .i64 hh, .int .i64 ii, .int .i64 ss]; have hbx := hb1.alloc hb1.size (.cells #[.int .i64 y, .int .i64 m, .int .i64 d, .int .i64 hh, .int .i64 ii, .int .i64 ss] 23))
    | (go_at_call 15; refine (rdate_no (t + 86400) _ (.inr hx)).mono ?_; rintro e w3 ⟨rfl, hb3⟩; have hX3 := hX.below hb3 (by simp); have x0 := hX3.cell 0; have x1 := hX3.cell 1; have x2 := hX3.cell 2; have x3 := hX3.cell 3; have x4 := hX3.cell 4; have x5 := hX3.cell 5; have f0 := hX3.frozen 0; have f1 := hX3.frozen 1; have f2 := hX3.frozen 2; have f3 := hX3.frozen 3; have f4 := hX3.frozen 4; have f5 := hX3.frozen 5; simp at x0 x1 x2 x3 x4 x5; have hb4 := below_store6 (hbx.trans (hb3.mono hbx.size)) hb1.size (.int .i64 0) (.int .i64 0) (.int .i64 0) (.int .i64 0) (.int .i64 0) (.int .i64 0); clear hX hX3))
  go_ret2
  exact ⟨rfl, hb4⟩
set_option maxHeartbeats 1600000 in
theorem rbusiness_next_ok (t hr : Int) (w : World) (h0 : 0 ≤ t) (h1 : t ≤ 3155759999) (b0 : 0 < hr) (b1 : hr ≤ 23) (h : hr ≤ t / 3600 % 24) (hx : t + 86400 ≤ 3155759999) : Calls Try.prog 31 #[.int .i64 t, .int .i64 hr] w fun e w' => ∃ y m d, IsDay ((t + 86400) / 86400) y m d ∧ e = .returned (.tuple #[.string (busV m d), .int .i64 0]) ∧ Below w.heap.size w w' := by
  obtain ⟨hh, ehh⟩ : ∃ hh, t / 3600 % 24 = hh := ⟨_, rfl⟩
  obtain ⟨ii, eii⟩ : ∃ ii, t / 60 % 60 = ii := ⟨_, rfl⟩
  obtain ⟨ss, ess⟩ : ∃ ss, t % 60 = ss := ⟨_, rfl⟩
  have hh0 : 0 ≤ hh := by omega
  have hi0 : 0 ≤ ii := by omega
  have hs0 : 0 ≤ ss := by omega
  have hh1 : hh ≤ 23 := by omega
  have hi1 : ii ≤ 59 := by omega
  have hs1 : ss ≤ 59 := by omega
  try rw [ehh, eii, ess]
  have EH := Lib.hid ehh
  have EI := Lib.hid eii
  have ES := Lib.hid ess
  clear ehh eii ess
  rw [EH.out] at h
  have k0 : 0 ≤ t + 86400 := by omega
  obtain ⟨jh, ejh⟩ : ∃ jh, (t + 86400) / 3600 % 24 = jh := ⟨_, rfl⟩
  obtain ⟨ji, eji⟩ : ∃ ji, (t + 86400) / 60 % 60 = ji := ⟨_, rfl⟩
  obtain ⟨js, ejs⟩ : ∃ js, (t + 86400) % 60 = js := ⟨_, rfl⟩
  have FH := Lib.hid ejh
  have FI := Lib.hid eji
  have FS := Lib.hid ejs
  clear ejh eji ejs
  go_enter Try.func31, Try.ntmps31
  go_wp2_with (first
    | (go_at_call_of 15 (Value.int IntKind.i64 t); refine (rdate_ok t _ h0 h1).mono ?_; rintro e w1 ⟨y', m', d', hd, rfl, hb1⟩; clear hd; simp only [dateV]; rw [EH.out, EI.out, ES.out]; have hX := Blk.new w1 23 #[.int .i64 y', .int .i64 m', .int .i64 d', .int .i64 hh, .int .i64 ii, .int .i64 ss]; have hbx := hb1.alloc hb1.size (.cells #[.int .i64 y', .int .i64 m', .int .i64 d', .int .i64 hh, .int .i64 ii, .int .i64 ss] 23))
    | (go_at_call 15; refine (rdate_ok (t + 86400) _ k0 hx).mono ?_; rintro e w3 ⟨y, m, d, hd, rfl, hb3⟩; have HD := Lib.hid hd; clear hd; simp only [dateV]; rw [FH.out, FI.out, FS.out]; have hX3 := hX.below hb3 (by simp); have x0 := hX3.cell 0; have x1 := hX3.cell 1; have x2 := hX3.cell 2; have x3 := hX3.cell 3; have x4 := hX3.cell 4; have x5 := hX3.cell 5; have f0 := hX3.frozen 0; have f1 := hX3.frozen 1; have f2 := hX3.frozen 2; have f3 := hX3.frozen 3; have f4 := hX3.frozen 4; have f5 := hX3.frozen 5; simp at x0 x1 x2 x3 x4 x5; have hb4 := below_store6 (hbx.trans (hb3.mono hbx.size)) hb1.size (.int .i64 y) (.int .i64 m) (.int .i64 d) (.int .i64 jh) (.int .i64 ji) (.int .i64 js); have hX4 := hX3.store6 (.int .i64 y) (.int .i64 m) (.int .i64 d) (.int .i64 jh) (.int .i64 ji) (.int .i64 js)))
  have hd := HD.out
  have dm := dim_hi y m
  obtain ⟨y0, y1, m0, m1, d0, d1', -⟩ := hd
  have hd9 : d ≤ 31 := by omega
  obtain ⟨g, hg⟩ : ∃ g, g = w1.heap.size := ⟨_, rfl⟩
  rw [← hg] at hb4 hX4
  rw [← hg]
  obtain ⟨w2, hw2⟩ : ∃ w2, w2 = ((((((w3.setCell ⟨g, 0, none⟩ (.int .i64 y)).setCell ⟨g, 1, none⟩ (.int .i64 m)).setCell ⟨g, 2, none⟩ (.int .i64 d)).setCell ⟨g, 3, none⟩ (.int .i64 jh)).setCell ⟨g, 4, none⟩ (.int .i64 ji)).setCell ⟨g, 5, none⟩ (.int .i64 js)) := ⟨_, rfl⟩
  rw [← hw2] at hb4 hX4
  rw [← hw2]
  clear x0 x1 x2 x3 x4 x5 f0 f1 f2 f3 f4 f5 hX hX3 d1' dm hw2 hg hbx hb3 hb1
  have hbx := hb4
  have x0 := hX4.cell 0
  have x1 := hX4.cell 1
  have x2 := hX4.cell 2
  have x3 := hX4.cell 3
  have x4 := hX4.cell 4
  have x5 := hX4.cell 5
  have xs := hX4.lt
  simp at x0 x1 x2 x3 x4 x5
  have hsz : w.heap.size ≤ w2.heap.size := hbx.size
  clear hX4 hb4
  have S1 := fun n => d2_size n
  go_region_held3 (fun w' => w'.cell? ⟨g, 0, none⟩ = some (.int .i64 y) ∧ w'.cell? ⟨g, 1, none⟩ = some (.int .i64 m) ∧ w'.cell? ⟨g, 2, none⟩ = some (.int .i64 d) ∧ w'.cell? ⟨g, 3, none⟩ = some (.int .i64 jh) ∧ w'.cell? ⟨g, 4, none⟩ = some (.int .i64 ji) ∧ w'.cell? ⟨g, 5, none⟩ = some (.int .i64 js) ∧ g < w'.heap.size ∧ w.heap.size ≤ w'.heap.size ∧ Below w.heap.size w w')
    (first | exact keepD (by assumption) (by assumption) | exact keepD (keep_drew (by assumption)) (by assumption) | exact keep_drew ⟨x0, x1, x2, x3, x4, x5, xs, hsz, hbx⟩ | exact keep_drew (by assumption) | assumption)
    ((first | (go_at_call 44; refine (rtwo_any _ _ (by omega) (by omega)).mono ?_; rintro e w' ⟨rfl, hb⟩)))
  rename_i HL
  clear S1
  go_wp2
  go_ret2
  exact ⟨y, m, d, HD.out, rfl, HL.2.2.2.2.2.2.2.2⟩
theorem rbusiness_same (t hr : Int) (w : World) (h0 : 0 ≤ t) (h1 : t ≤ 3155759999) (b0 : 0 ≤ hr) (b1 : hr ≤ 23) (h : hr = 0 ∨ t / 3600 % 24 < hr) : Calls Try.prog 31 #[.int .i64 t, .int .i64 hr] w fun e w' => e = .returned (.tuple #[.string (busOf t), .int .i64 0]) ∧ Below w.heap.size w w' :=
  (rbusiness_same_ok t hr w h0 h1 b0 b1 h).mono fun e w' ⟨y, m, d, hd, he, hb⟩ => by
    obtain ⟨e1, e2, e3⟩ := day_is hd
    subst e1 e2 e3
    exact ⟨he, hb⟩
theorem rbusiness_next (t hr : Int) (w : World) (h0 : 0 ≤ t) (h1 : t ≤ 3155759999) (b0 : 0 < hr) (b1 : hr ≤ 23) (h : hr ≤ t / 3600 % 24) (hx : t + 86400 ≤ 3155759999) : Calls Try.prog 31 #[.int .i64 t, .int .i64 hr] w fun e w' => e = .returned (.tuple #[.string (busOf (t + 86400)), .int .i64 0]) ∧ Below w.heap.size w w' :=
  (rbusiness_next_ok t hr w h0 h1 b0 b1 h hx).mono fun e w' ⟨y, m, d, hd, he, hb⟩ => by
    obtain ⟨e1, e2, e3⟩ := day_is hd
    subst e1 e2 e3
    exact ⟨he, hb⟩
/-- What is told: text and error. -/
theorem rbusiness_any (t hr : Int) (w : World) : Calls Try.prog 31 #[.int .i64 t, .int .i64 hr] w fun e w' => e = .returned (.tuple #[.string (busT t hr), .int .i64 (busE t hr)]) ∧ Below w.heap.size w w' := by
  unfold busT busE
  by_cases h0 : t < 0 ∨ 3155759999 < t
  · rw [if_pos h0, if_pos h0]; exact rbusiness_no t hr w h0
  rw [if_neg h0, if_neg h0]
  by_cases h1 : hr < 0 ∨ 23 < hr
  · rw [if_pos h1, if_pos h1]; exact rbusiness_arg t hr w (by omega) (by omega) h1
  rw [if_neg h1, if_neg h1]
  by_cases h2 : 0 < hr ∧ hr ≤ t / 3600 % 24
  · rw [if_pos h2, if_pos h2]
    by_cases h3 : t + 86400 ≤ 3155759999
    · rw [if_pos h3, if_pos h3]; exact rbusiness_next t hr w (by omega) (by omega) h2.1 (by omega) h2.2 h3
    · rw [if_neg h3, if_neg h3]; exact rbusiness_late t hr w (by omega) (by omega) h2.1 (by omega) h2.2 (by omega)
  · rw [if_neg h2, if_neg h2]; exact rbusiness_same t hr w (by omega) (by omega) (by omega) (by omega) (by omega)
end Go.Proofs.Ytghmmomlfhckgaa
