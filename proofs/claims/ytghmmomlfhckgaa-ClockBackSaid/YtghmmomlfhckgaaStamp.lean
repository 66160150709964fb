/-
  Stamp, Julian, Business: the program's and the document's.
-/
import Derived.Test.YtghmmomlfhckgaaDigits
import Derived.Deep.RegionHeld3
import Derived.StillTactics
import Derived.OwnWalk
namespace Go.Proofs.Ytghmmomlfhckgaa
open Go.RowKit
set_option linter.unusedVariables false
set_option linter.unusedSimpArgs false
/-- The stamp of a date. -/
def stampV (m d h i s : Int) : ByteArray := d2 m ++ d2 d ++ d2 h ++ d2 i ++ d2 s
theorem keepD {g B : Nat} {c0 c1 c2 c3 c4 c5 : Value} {w0 W w' : World}
    (hS : W.cell? ⟨g, 0, none⟩ = some c0 ∧ W.cell? ⟨g, 1, none⟩ = some c1 ∧ W.cell? ⟨g, 2, none⟩ = some c2 ∧ W.cell? ⟨g, 3, none⟩ = some c3 ∧ W.cell? ⟨g, 4, none⟩ = some c4 ∧ W.cell? ⟨g, 5, none⟩ = some c5 ∧ g < W.heap.size ∧ B ≤ W.heap.size ∧ Below B w0 W)
    (hb : Below W.heap.size W w') :
    w'.cell? ⟨g, 0, none⟩ = some c0 ∧ w'.cell? ⟨g, 1, none⟩ = some c1 ∧ w'.cell? ⟨g, 2, none⟩ = some c2 ∧ w'.cell? ⟨g, 3, none⟩ = some c3 ∧ w'.cell? ⟨g, 4, none⟩ = some c4 ∧ w'.cell? ⟨g, 5, none⟩ = some c5 ∧ g < w'.heap.size ∧ B ≤ w'.heap.size ∧ Below B w0 w' := by
  obtain ⟨h0, h1, h2, h3, h4, h5, h6, h7, h8⟩ := hS
  refine ⟨(hb.cell (p := ⟨g, 0, none⟩) h6).trans h0, (hb.cell (p := ⟨g, 1, none⟩) h6).trans h1, (hb.cell (p := ⟨g, 2, none⟩) h6).trans h2, (hb.cell (p := ⟨g, 3, none⟩) h6).trans h3, (hb.cell (p := ⟨g, 4, none⟩) h6).trans h4, (hb.cell (p := ⟨g, 5, none⟩) h6).trans h5, Nat.lt_of_lt_of_le h6 hb.size, Nat.le_trans h7 hb.size, h8.trans (hb.mono h7)⟩
theorem keep_drew {g B : Nat} {c0 c1 c2 c3 c4 c5 : Value} {w0 W : World}
    (hS : W.cell? ⟨g, 0, none⟩ = some c0 ∧ W.cell? ⟨g, 1, none⟩ = some c1 ∧ W.cell? ⟨g, 2, none⟩ = some c2 ∧ W.cell? ⟨g, 3, none⟩ = some c3 ∧ W.cell? ⟨g, 4, none⟩ = some c4 ∧ W.cell? ⟨g, 5, none⟩ = some c5 ∧ g < W.heap.size ∧ B ≤ W.heap.size ∧ Below B w0 W) :
    W.drew.cell? ⟨g, 0, none⟩ = some c0 ∧ W.drew.cell? ⟨g, 1, none⟩ = some c1 ∧ W.drew.cell? ⟨g, 2, none⟩ = some c2 ∧ W.drew.cell? ⟨g, 3, none⟩ = some c3 ∧ W.drew.cell? ⟨g, 4, none⟩ = some c4 ∧ W.drew.cell? ⟨g, 5, none⟩ = some c5 ∧ g < W.drew.heap.size ∧ B ≤ W.drew.heap.size ∧ Below B w0 W.drew := by
  obtain ⟨h0, h1, h2, h3, h4, h5, h6, h7, h8⟩ := hS
  exact ⟨h0, h1, h2, h3, h4, h5, h6, h7, h8.drew⟩
/-- The day of the year, and the year's last digit. -/
def julV (y m d : Int) : ByteArray := d1 y ++ d3 (ahd y m + d)
def busV (m d : Int) : ByteArray := d2 m ++ d2 d
theorem d2_size (n : Int) : (d2 n).size = 2 := rfl
theorem d1_size (n : Int) : (d1 n).size = 1 := rfl
theorem d3_size (n : Int) : (d3 n).size = 3 := rfl

noncomputable def stampOf (t : Int) : ByteArray := stampV (dM (t / 86400)) (dD (t / 86400)) (t / 3600 % 24) (t / 60 % 60) (t % 60)
noncomputable def julOf (t : Int) : ByteArray := julV (dY (t / 86400)) (dM (t / 86400)) (dD (t / 86400))
noncomputable def busOf (t : Int) : ByteArray := busV (dM (t / 86400)) (dD (t / 86400))

theorem stamp_no (t : Int) (w : World) (h : t < 0 ∨ 3155759999 < t) : Calls Try.prog 22 #[.int .i64 t] w fun e w' => e = .returned (.tuple #[.string { data := #[] }, .int .i64 80]) ∧ Below w.heap.size w w' := by
  have H := Lib.hid h
  clear h
  go_enter Try.func22, Try.ntmps22
  go_wp2_with (go_at_call 14; refine (date_no t _ H.out).mono ?_; rintro e w1 ⟨rfl, hb1⟩)
  go_ret2
  exact ⟨rfl, hb1.alloc hb1.size _⟩
set_option maxHeartbeats 1600000 in
theorem stamp_ok (t : Int) (w : World) (h0 : 0 ≤ t) (h1 : t ≤ 3155759999) : Calls Try.prog 22 #[.int .i64 t] w fun e w' => ∃ y m d, IsDay (t / 86400) y m d ∧ e = .returned (.tuple #[.string (stampV m d (t / 3600 % 24) (t / 60 % 60) (t % 60)), .int .i64 0]) ∧ Below w.heap.size w w' := by
  obtain ⟨hh, ehh⟩ : ∃ hh, t / 3600 % 24 = hh := ⟨_, rfl⟩
  obtain ⟨ii, eii⟩ : ∃ ii, t / 60 % 60 = ii := ⟨_, rfl⟩
  obtain ⟨ss, ess⟩ : ∃ ss, t % 60 = ss := ⟨_, rfl⟩
  have hh0 : 0 ≤ hh := by omega
  have hi0 : 0 ≤ ii := by omega
  have hs0 : 0 ≤ ss := by omega
  have hh1 : hh ≤ 23 := by omega
  have hi1 : ii ≤ 59 := by omega
  have hs1 : ss ≤ 59 := by omega
  try rw [ehh, eii, ess]
  have EH := Lib.hid ehh
  have EI := Lib.hid eii
  have ES := Lib.hid ess
  clear ehh eii ess
  go_enter Try.func22, Try.ntmps22
  go_wp2_with (go_at_call 14; refine (date_ok t _ h0 h1).mono ?_; rintro e w1 ⟨y, m, d, hd, rfl, hb1⟩; have HD := Lib.hid hd; clear hd; simp only [dateV]; rw [EH.out, EI.out, ES.out])
  have hd := HD.out
  have dm := dim_hi y m
  have al := ahd_lo y m
  have ah := ahd_hi y m
  obtain ⟨y0, y1, m0, m1, d0, d1', -⟩ := hd
  have hd9 : d ≤ 31 := by omega
  clear d1' dm
  have hX := Blk.new w1 23 #[.int .i64 y, .int .i64 m, .int .i64 d, .int .i64 hh, .int .i64 ii, .int .i64 ss]
  have hbx := hb1.alloc hb1.size (.cells #[.int .i64 y, .int .i64 m, .int .i64 d, .int .i64 hh, .int .i64 ii, .int .i64 ss] 23)
  obtain ⟨g, hg⟩ : ∃ g, g = w1.heap.size := ⟨_, rfl⟩
  obtain ⟨w2, hw2⟩ : ∃ w2, w2 = w1.alloc (.cells #[.int .i64 y, .int .i64 m, .int .i64 d, .int .i64 hh, .int .i64 ii, .int .i64 ss] 23) := ⟨_, rfl⟩
  rw [← hw2, ← hg]
  rw [← hw2, ← hg] at hX
  rw [← hw2] at hbx
  have x0 := hX.cell 0
  have x1 := hX.cell 1
  have x2 := hX.cell 2
  have x3 := hX.cell 3
  have x4 := hX.cell 4
  have x5 := hX.cell 5
  have xs := hX.lt
  simp at x0 x1 x2 x3 x4 x5
  have hsz : w.heap.size ≤ w2.heap.size := hbx.size
  have hBg : w.heap.size ≤ g := by rw [hg]; exact hb1.size
  clear hw2 hg hX hb1
  have S1 := fun n => d2_size n
  go_region_held3 (fun w' => w'.cell? ⟨g, 0, none⟩ = some (.int .i64 y) ∧ w'.cell? ⟨g, 1, none⟩ = some (.int .i64 m) ∧ w'.cell? ⟨g, 2, none⟩ = some (.int .i64 d) ∧ w'.cell? ⟨g, 3, none⟩ = some (.int .i64 hh) ∧ w'.cell? ⟨g, 4, none⟩ = some (.int .i64 ii) ∧ w'.cell? ⟨g, 5, none⟩ = some (.int .i64 ss) ∧ g < w'.heap.size ∧ w.heap.size ≤ w'.heap.size ∧ Below w.heap.size w w')
    (first | exact keepD (by assumption) (by assumption) | exact keepD (keep_drew (by assumption)) (by assumption) | exact keep_drew ⟨x0, x1, x2, x3, x4, x5, xs, hsz, hbx⟩ | exact keep_drew (by assumption) | assumption)
    ((first | (go_at_call 43; refine (written_2 _ _ (by omega) (by omega)).mono ?_; rintro e w' ⟨rfl, hb⟩)))
  rename_i HL
  clear S1
  go_wp2
  go_ret2
  exact ⟨y, m, d, HD.out, rfl, HL.2.2.2.2.2.2.2.2⟩
theorem stamp_is (t : Int) (w : World) (h0 : 0 ≤ t) (h1 : t ≤ 3155759999) : Calls Try.prog 22 #[.int .i64 t] w fun e w' => e = .returned (.tuple #[.string (stampOf t), .int .i64 0]) ∧ Below w.heap.size w w' :=
  (stamp_ok t w h0 h1).mono fun e w' ⟨y, m, d, hd, he, hb⟩ => by
    obtain ⟨e1, e2, e3⟩ := day_is hd
    subst e1 e2 e3
    exact ⟨he, hb⟩

theorem rstamp_no (t : Int) (w : World) (h : t < 0 ∨ 3155759999 < t) : Calls Try.prog 28 #[.int .i64 t] w fun e w' => e = .returned (.tuple #[.string { data := #[] }, .int .i64 80]) ∧ Below w.heap.size w w' := by
  have H := Lib.hid h
  clear h
  go_enter Try.func28, Try.ntmps28
  go_wp2_with (go_at_call 15; refine (rdate_no t _ H.out).mono ?_; rintro e w1 ⟨rfl, hb1⟩)
  go_ret2
  exact ⟨rfl, hb1.alloc hb1.size _⟩
set_option maxHeartbeats 1600000 in
theorem rstamp_ok (t : Int) (w : World) (h0 : 0 ≤ t) (h1 : t ≤ 3155759999) : Calls Try.prog 28 #[.int .i64 t] w fun e w' => ∃ y m d, IsDay (t / 86400) y m d ∧ e = .returned (.tuple #[.string (stampV m d (t / 3600 % 24) (t / 60 % 60) (t % 60)), .int .i64 0]) ∧ Below w.heap.size w w' := by
  obtain ⟨hh, ehh⟩ : ∃ hh, t / 3600 % 24 = hh := ⟨_, rfl⟩
  obtain ⟨ii, eii⟩ : ∃ ii, t / 60 % 60 = ii := ⟨_, rfl⟩
  obtain ⟨ss, ess⟩ : ∃ ss, t % 60 = ss := ⟨_, rfl⟩
  have hh0 : 0 ≤ hh := by omega
  have hi0 : 0 ≤ ii := by omega
  have hs0 : 0 ≤ ss := by omega
  have hh1 : hh ≤ 23 := by omega
  have hi1 : ii ≤ 59 := by omega
  have hs1 : ss ≤ 59 := by omega
  try rw [ehh, eii, ess]
  have EH := Lib.hid ehh
  have EI := Lib.hid eii
  have ES := Lib.hid ess
  clear ehh eii ess
  go_enter Try.func28, Try.ntmps28
  go_wp2_with (go_at_call 15; refine (rdate_ok t _ h0 h1).mono ?_; rintro e w1 ⟨y, m, d, hd, rfl, hb1⟩; have HD := Lib.hid hd; clear hd; simp only [dateV]; rw [EH.out, EI.out, ES.out])
  have hd := HD.out
  have dm := dim_hi y m
  have al := ahd_lo y m
  have ah := ahd_hi y m
  obtain ⟨y0, y1, m0, m1, d0, d1', -⟩ := hd
  have hd9 : d ≤ 31 := by omega
  clear d1' dm
  have hX := Blk.new w1 23 #[.int .i64 y, .int .i64 m, .int .i64 d, .int .i64 hh, .int .i64 ii, .int .i64 ss]
  have hbx := hb1.alloc hb1.size (.cells #[.int .i64 y, .int .i64 m, .int .i64 d, .int .i64 hh, .int .i64 ii, .int .i64 ss] 23)
  obtain ⟨g, hg⟩ : ∃ g, g = w1.heap.size := ⟨_, rfl⟩
  obtain ⟨w2, hw2⟩ : ∃ w2, w2 = w1.alloc (.cells #[.int .i64 y, .int .i64 m, .int .i64 d, .int .i64 hh, .int .i64 ii, .int .i64 ss] 23) := ⟨_, rfl⟩
  rw [← hw2, ← hg]
  rw [← hw2, ← hg] at hX
  rw [← hw2] at hbx
  have x0 := hX.cell 0
  have x1 := hX.cell 1
  have x2 := hX.cell 2
  have x3 := hX.cell 3
  have x4 := hX.cell 4
  have x5 := hX.cell 5
  have xs := hX.lt
  simp at x0 x1 x2 x3 x4 x5
  have hsz : w.heap.size ≤ w2.heap.size := hbx.size
  have hBg : w.heap.size ≤ g := by rw [hg]; exact hb1.size
  clear hw2 hg hX hb1
  have S1 := fun n => d2_size n
  go_region_held3 (fun w' => w'.cell? ⟨g, 0, none⟩ = some (.int .i64 y) ∧ w'.cell? ⟨g, 1, none⟩ = some (.int .i64 m) ∧ w'.cell? ⟨g, 2, none⟩ = some (.int .i64 d) ∧ w'.cell? ⟨g, 3, none⟩ = some (.int .i64 hh) ∧ w'.cell? ⟨g, 4, none⟩ = some (.int .i64 ii) ∧ w'.cell? ⟨g, 5, none⟩ = some (.int .i64 ss) ∧ g < w'.heap.size ∧ w.heap.size ≤ w'.heap.size ∧ Below w.heap.size w w')
    (first | exact keepD (by assumption) (by assumption) | exact keepD (keep_drew (by assumption)) (by assumption) | exact keep_drew ⟨x0, x1, x2, x3, x4, x5, xs, hsz, hbx⟩ | exact keep_drew (by assumption) | assumption)
    ((first | (go_at_call 44; refine (rtwo_any _ _ (by omega) (by omega)).mono ?_; rintro e w' ⟨rfl, hb⟩)))
  rename_i HL
  clear S1
  go_wp2
  go_ret2
  exact ⟨y, m, d, HD.out, rfl, HL.2.2.2.2.2.2.2.2⟩
theorem rstamp_is (t : Int) (w : World) (h0 : 0 ≤ t) (h1 : t ≤ 3155759999) : Calls Try.prog 28 #[.int .i64 t] w fun e w' => e = .returned (.tuple #[.string (stampOf t), .int .i64 0]) ∧ Below w.heap.size w w' :=
  (rstamp_ok t w h0 h1).mono fun e w' ⟨y, m, d, hd, he, hb⟩ => by
    obtain ⟨e1, e2, e3⟩ := day_is hd
    subst e1 e2 e3
    exact ⟨he, hb⟩

theorem julian_no (t : Int) (w : World) (h : t < 0 ∨ 3155759999 < t) : Calls Try.prog 24 #[.int .i64 t] w fun e w' => e = .returned (.tuple #[.string { data := #[] }, .int .i64 80]) ∧ Below w.heap.size w w' := by
  have H := Lib.hid h
  clear h
  go_enter Try.func24, Try.ntmps24
  go_wp2_with (go_at_call 14; refine (date_no t _ H.out).mono ?_; rintro e w1 ⟨rfl, hb1⟩)
  go_ret2
  exact ⟨rfl, hb1.alloc hb1.size _⟩
set_option maxHeartbeats 1600000 in
theorem julian_ok (t : Int) (w : World) (h0 : 0 ≤ t) (h1 : t ≤ 3155759999) : Calls Try.prog 24 #[.int .i64 t] w fun e w' => ∃ y m d, IsDay (t / 86400) y m d ∧ e = .returned (.tuple #[.string (julV y m d), .int .i64 0]) ∧ Below w.heap.size w w' := by
  obtain ⟨hh, ehh⟩ : ∃ hh, t / 3600 % 24 = hh := ⟨_, rfl⟩
  obtain ⟨ii, eii⟩ : ∃ ii, t / 60 % 60 = ii := ⟨_, rfl⟩
  obtain ⟨ss, ess⟩ : ∃ ss, t % 60 = ss := ⟨_, rfl⟩
  have hh0 : 0 ≤ hh := by omega
  have hi0 : 0 ≤ ii := by omega
  have hs0 : 0 ≤ ss := by omega
  have hh1 : hh ≤ 23 := by omega
  have hi1 : ii ≤ 59 := by omega
  have hs1 : ss ≤ 59 := by omega
  try rw [ehh, eii, ess]
  have EH := Lib.hid ehh
  have EI := Lib.hid eii
  have ES := Lib.hid ess
  clear ehh eii ess
  go_enter Try.func24, Try.ntmps24
  go_wp2_with (go_at_call 14; refine (date_ok t _ h0 h1).mono ?_; rintro e w1 ⟨y, m, d, hd, rfl, hb1⟩; have HD := Lib.hid hd; clear hd; simp only [dateV]; rw [EH.out, EI.out, ES.out])
  have hd := HD.out
  have dm := dim_hi y m
  have al := ahd_lo y m
  have ah := ahd_hi y m
  obtain ⟨y0, y1, m0, m1, d0, d1', -⟩ := hd
  have hd9 : d ≤ 31 := by omega
  clear d1' dm
  have hX := Blk.new w1 23 #[.int .i64 y, .int .i64 m, .int .i64 d, .int .i64 hh, .int .i64 ii, .int .i64 ss]
  have hbx := hb1.alloc hb1.size (.cells #[.int .i64 y, .int .i64 m, .int .i64 d, .int .i64 hh, .int .i64 ii, .int .i64 ss] 23)
  obtain ⟨g, hg⟩ : ∃ g, g = w1.heap.size := ⟨_, rfl⟩
  obtain ⟨w2, hw2⟩ : ∃ w2, w2 = w1.alloc (.cells #[.int .i64 y, .int .i64 m, .int .i64 d, .int .i64 hh, .int .i64 ii, .int .i64 ss] 23) := ⟨_, rfl⟩
  rw [← hw2, ← hg]
  rw [← hw2, ← hg] at hX
  rw [← hw2] at hbx
  have x0 := hX.cell 0
  have x1 := hX.cell 1
  have x2 := hX.cell 2
  have x3 := hX.cell 3
  have x4 := hX.cell 4
  have x5 := hX.cell 5
  have xs := hX.lt
  simp at x0 x1 x2 x3 x4 x5
  have hsz : w.heap.size ≤ w2.heap.size := hbx.size
  have hBg : w.heap.size ≤ g := by rw [hg]; exact hb1.size
  clear hw2 hg hX hb1
  have S1 := fun n => d1_size n
  have S3 := fun n => d3_size n
  have W1 : IntKind.i64.wrap (ahd y m + d) = ahd y m + d := IntWalk.i64_in _ (by omega)
  go_region_held3 (fun w' => w'.cell? ⟨g, 0, none⟩ = some (.int .i64 y) ∧ w'.cell? ⟨g, 1, none⟩ = some (.int .i64 m) ∧ w'.cell? ⟨g, 2, none⟩ = some (.int .i64 d) ∧ w'.cell? ⟨g, 3, none⟩ = some (.int .i64 hh) ∧ w'.cell? ⟨g, 4, none⟩ = some (.int .i64 ii) ∧ w'.cell? ⟨g, 5, none⟩ = some (.int .i64 ss) ∧ g < w'.heap.size ∧ w.heap.size ≤ w'.heap.size ∧ Below w.heap.size w w')
    (first | exact keepD (by assumption) (by assumption) | exact keepD (keep_drew (by assumption)) (by assumption) | exact keep_drew ⟨x0, x1, x2, x3, x4, x5, xs, hsz, hbx⟩ | exact keep_drew (by assumption) | assumption)
    ((first | (go_at_call 35; refine (ahead_any _ _ _).mono ?_; rintro e w' ⟨rfl, rfl⟩) | (go_at_call_of 43 (Value.int IntKind.i64 y); refine (written_1 _ _ (by omega) (by omega)).mono ?_; rintro e w' ⟨rfl, hb⟩) | (go_at_call 43; refine (written_3 _ _ (by omega) (by omega)).mono ?_; rintro e w' ⟨rfl, hb⟩)))
  rename_i HL
  clear S1 S3 W1
  go_wp2
  go_ret2
  exact ⟨y, m, d, HD.out, rfl, HL.2.2.2.2.2.2.2.2⟩
theorem julian_is (t : Int) (w : World) (h0 : 0 ≤ t) (h1 : t ≤ 3155759999) : Calls Try.prog 24 #[.int .i64 t] w fun e w' => e = .returned (.tuple #[.string (julOf t), .int .i64 0]) ∧ Below w.heap.size w w' :=
  (julian_ok t w h0 h1).mono fun e w' ⟨y, m, d, hd, he, hb⟩ => by
    obtain ⟨e1, e2, e3⟩ := day_is hd
    subst e1 e2 e3
    exact ⟨he, hb⟩

theorem rjulian_no (t : Int) (w : World) (h : t < 0 ∨ 3155759999 < t) : Calls Try.prog 29 #[.int .i64 t] w fun e w' => e = .returned (.tuple #[.string { data := #[] }, .int .i64 80]) ∧ Below w.heap.size w w' := by
  have H := Lib.hid h
  clear h
  go_enter Try.func29, Try.ntmps29
  go_wp2_with (go_at_call 15; refine (rdate_no t _ H.out).mono ?_; rintro e w1 ⟨rfl, hb1⟩)
  go_ret2
  exact ⟨rfl, hb1.alloc hb1.size _⟩
set_option maxHeartbeats 3200000 in
theorem rjulian_ok (t : Int) (w : World) (h0 : 0 ≤ t) (h1 : t ≤ 3155759999) : Calls Try.prog 29 #[.int .i64 t] w fun e w' => ∃ y m d, IsDay (t / 86400) y m d ∧ e = .returned (.tuple #[.string (julV y m d), .int .i64 0]) ∧ Below w.heap.size w w' := by
  obtain ⟨hh, ehh⟩ : ∃ hh, t / 3600 % 24 = hh := ⟨_, rfl⟩
  obtain ⟨ii, eii⟩ : ∃ ii, t / 60 % 60 = ii := ⟨_, rfl⟩
  obtain ⟨ss, ess⟩ : ∃ ss, t % 60 = ss := ⟨_, rfl⟩
  have hh0 : 0 ≤ hh := by omega
  have hi0 : 0 ≤ ii := by omega
  have hs0 : 0 ≤ ss := by omega
  have hh1 : hh ≤ 23 := by omega
  have hi1 : ii ≤ 59 := by omega
  have hs1 : ss ≤ 59 := by omega
  try rw [ehh, eii, ess]
  have EH := Lib.hid ehh
  have EI := Lib.hid eii
  have ES := Lib.hid ess
  clear ehh eii ess
  go_enter Try.func29, Try.ntmps29
  go_wp2_with (go_at_call 15; refine (rdate_ok t _ h0 h1).mono ?_; rintro e w1 ⟨y, m, d, hd, rfl, hb1⟩; have HD := Lib.hid hd; clear hd; simp only [dateV]; rw [EH.out, EI.out, ES.out])
  have hd := HD.out
  have dm := dim_hi y m
  have al := ahd_lo y m
  have ah := ahd_hi y m
  obtain ⟨y0, y1, m0, m1, d0, d1', -⟩ := hd
  have hd9 : d ≤ 31 := by omega
  clear d1' dm
  have hX := Blk.new w1 23 #[.int .i64 y, .int .i64 m, .int .i64 d, .int .i64 hh, .int .i64 ii, .int .i64 ss]
  have hbx := hb1.alloc hb1.size (.cells #[.int .i64 y, .int .i64 m, .int .i64 d, .int .i64 hh, .int .i64 ii, .int .i64 ss] 23)
  obtain ⟨g, hg⟩ : ∃ g, g = w1.heap.size := ⟨_, rfl⟩
  obtain ⟨w2, hw2⟩ : ∃ w2, w2 = w1.alloc (.cells #[.int .i64 y, .int .i64 m, .int .i64 d, .int .i64 hh, .int .i64 ii, .int .i64 ss] 23) := ⟨_, rfl⟩
  rw [← hw2, ← hg]
  rw [← hw2, ← hg] at hX
  rw [← hw2] at hbx
  have x0 := hX.cell 0
  have x1 := hX.cell 1
  have x2 := hX.cell 2
  have x3 := hX.cell 3
  have x4 := hX.cell 4
  have x5 := hX.cell 5
  have xs := hX.lt
  simp at x0 x1 x2 x3 x4 x5
  have hsz : w.heap.size ≤ w2.heap.size := hbx.size
  have hBg : w.heap.size ≤ g := by rw [hg]; exact hb1.size
  clear hw2 hg hX hb1
  go_loop [6, 7] (fun n q => ∃ k : Int, 1 ≤ k ∧ k ≤ m ∧ q = .int .i64 k ∧ n = .int .i64 (ahd y k + d)) (fun _ q => (m - intOf q).toNat)
  case atStart => exact ⟨1, by omega, m0, rfl, by rw [ahd_1]; go_num⟩
  case round =>
    obtain ⟨k, hk0, hk1, rfl, rfl⟩ := hrel
    have a0 := ahd_lo y k
    have a1 := ahd_hi y k
    have a2 := dim_lo y k
    have a3 := dim_hi y k
    by_cases hk : k < m
    · go_wp2_with (go_at_call 37; refine (days_any _ _ _).mono ?_; rintro e w' ⟨rfl, rfl⟩)
      go_round
      case rel => exact ⟨k + 1, by omega, by omega, by go_num, by rw [ahd_succ y k hk0 (by omega)]; go_num⟩
      case measure => simp [intOf]; omega
    · have e : k = m := by omega
      subst e
      have T3 : y.tmod 10 = y % 10 := Int.tmod_eq_emod_of_nonneg (by omega)
      have T4 : IntKind.i64.wrap (48 + y % 10) = 48 + y % 10 := IntWalk.i64_in _ (by omega)
      have T5 : IntKind.u8.wrap (48 + y % 10) = 48 + y % 10 := IntWalk.u8_in _ (by omega)
      have S1 : (strOfNums [48 + y % 10]).size = 1 := rfl
      have S2 := fun n => d3_size n
      have hcv : ∀ W : World, ∀ (x : Int) (c : Nat), (convert 44 9 (.slice (some ⟨W.heap.size, 0, none⟩) 1 c)).run Try.prog (W.alloc (.cells #[.int .u8 x] 5)) = .ok (.string (strOfNums [x])) (W.alloc (.cells #[.int .u8 x] 5)) := fun W => conv1 W
      have hcd : ∀ W : World, ∀ (x : Int) (c : Nat), (convert 44 9 (.slice (some ⟨W.heap.size, 0, none⟩) 1 c)).run Try.prog (W.alloc (.cells #[.int .u8 x] 5)).drew = .ok (.string (strOfNums [x])) (W.alloc (.cells #[.int .u8 x] 5)).drew := fun W x c => convAt _ _ _ _ ((Blk.new W 5 #[.int .u8 x]).cell 0)
      go_wp2_with fail
      go_region_with (go_at_call 45; refine (rthree_any _ _ (by omega) (by omega)).mono ?_; rintro e w' ⟨rfl, hb⟩; have z0 : w'.cell? ⟨g, 0, none⟩ = some (.int .i64 y) := (hb.cell (p := ⟨g, 0, none⟩) (by simp; omega)).trans (by simp [x0, World.cell?_alloc_some]); try (have hc2 := convAt w' w2.heap.size (48 + y % 10) 1 ((hb.cell (p := ⟨w2.heap.size, 0, none⟩) (by simp)).trans ((Blk.new w2 5 #[.int .u8 (48 + y % 10)]).cell 0))); try (have hc3 := convAt w'.drew w2.heap.size (48 + y % 10) 1 ((hb.cell (p := ⟨w2.heap.size, 0, none⟩) (by simp)).trans ((Blk.new w2 5 #[.int .u8 (48 + y % 10)]).cell 0))))
      all_goals
        clear hcv hcd T3 T4 T5
        go_wp2
        go_ret2
        refine ⟨y, k, d, HD.out, rfl, ?_⟩
        first
        | exact (((hbx.alloc hsz _).drew).trans (hb.mono (by simp; omega)))
        | exact ((hbx.drew.trans (hb.mono hsz)).alloc (Nat.le_trans hsz hb.size) _)
        | exact ((hbx.trans (hb.mono hsz)).alloc (Nat.le_trans hsz hb.size) _)
        | trace_state
theorem rjulian_is (t : Int) (w : World) (h0 : 0 ≤ t) (h1 : t ≤ 3155759999) : Calls Try.prog 29 #[.int .i64 t] w fun e w' => e = .returned (.tuple #[.string (julOf t), .int .i64 0]) ∧ Below w.heap.size w w' :=
  (rjulian_ok t w h0 h1).mono fun e w' ⟨y, m, d, hd, he, hb⟩ => by
    obtain ⟨e1, e2, e3⟩ := day_is hd
    subst e1 e2 e3
    exact ⟨he, hb⟩
end Go.Proofs.Ytghmmomlfhckgaa
