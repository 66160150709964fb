/-
  told: what a session says to a thing, by its contract.
-/
import Derived.Test.YtcdikjomiomnpaaSes
import Derived.Deep.RegionWith
namespace Go.Proofs.Ytcdikjomiomnpaa
open Go.RowKit
set_option linter.unusedVariables false
set_option linter.unusedSimpArgs false

def stepS (s : S) (q : Int) (c a : List UInt8) : S :=
  if q = 0 then heardS s else if q = 1 then askedS s c else if q = 2 then answeredS s c a else if q = 3 then tickS s else if q = 4 then upS s else downS s
def stepY (s : S) (q : Int) (c : ByteArray) : Y :=
  if q = 1 then askedY s c else if q = 3 then tickY s else if q = 4 then upY s else quietY

theorem Ses.far' {B : Nat} {w0 w : World} {b g i : Nat} {s : S} (hne : b ≠ g) (hB : B ≤ g) (u : Value) (h : Ses B w0 b s w) : Ses B w0 b s (w.setCell ⟨g, i, none⟩ u) :=
  ⟨h.1.far_ hne u, h.2.1, h.2.2.1.setCell (p := ⟨g, i, none⟩) hB u, by simpa [World.setCell] using h.2.2.2⟩
theorem only_at {a w : World} {g k i : Nat} (hk : a.heap.size ≤ k) (u : Value) (h : a.grownBy w (some g)) : a.grownBy (w.setCell ⟨k, i, none⟩ u) (some g) := only_setCell h (.inr hk) u
theorem Blk.new2 (w : World) (o : Obj) (t : TypeId) (cs : Array Value) : Blk ((w.alloc o).alloc (.cells cs t)) (w.heap.size + 1) t cs := by
  have h := Blk.new (w.alloc o) t cs
  have e : (w.alloc o).heap.size = w.heap.size + 1 := by simp
  rw [e] at h
  exact h

def Told (B : Nat) (w0 : World) (b : Nat) (w : World) (s' : S) (y : Y) (e : Ending) (w' : World) : Prop := e = .returned y.val ∧ Ses B w0 b s' w' ∧ w.grownBy w' (some b)

set_option maxHeartbeats 1600000 in
theorem told_any {B : Nat} {w0 w : World} {b : Nat} {s : S} (v q : Int) (c a : ByteArray) (h : Ses B w0 b s w) (hg : Good s) (hv1 : -9223372036854775808 ≤ v) (hv2 : v ≤ 9223372036854775807) (hq : pickP v 6 = q) :
    Calls Try.prog 27 #[.pointer (some ⟨b, 0, none⟩), .agg #[.int .i64 v, .string c, .string a]] w (Told B w0 b w (stepS s q c.toList a.toList) (stepY s q c)) := by
  have hq0 : 0 ≤ q := by rw [← hq]; exact pickP_lo _ _ (by omega)
  have hq1 : q < 6 := by rw [← hq]; exact pickP_hi _ _ (by omega)
  have hq6 : q = 0 ∨ q = 1 ∨ q = 2 ∨ q = 3 ∨ q = 4 ∨ q = 5 := by omega
  clear hq0 hq1
  have hlt := h.lt
  have hB := h.2.2.2
  have HG := Lib.hid hg
  clear hg
  obtain ⟨yc, ya, yl, hy⟩ : ∃ yc ya yl, stepY s q c = ⟨yc, ya, yl⟩ := ⟨_, _, _, rfl⟩
  obtain ⟨t, ht⟩ : ∃ t, stepS s q c.toList a.toList = t := ⟨_, rfl⟩
  rw [hy, ht]
  rcases hq6 with rfl | rfl | rfl | rfl | rfl | rfl
  all_goals
    have HQ := Lib.hid hq
    have HY := Lib.hid hy
    have HT := Lib.hid ht
    clear hq hy ht
    go_enter Try.func27, Try.ntmps27
    go_wp2_with (first
      | (go_at_call 9; refine (pick_is v 6 _ _ hv1 hv2 (by omega) (by omega) HQ.out).mono ?_; rintro e w' ⟨rfl, rfl⟩)
      | (go_at_call 14; refine (heard_ses t ((h.alloc _).alloc _) HT.out).mono ?_; rintro e w1 ⟨rfl, hs1, hg1⟩; have hr := (Blk.new2 w _ 27 _).grown hg1 (by intro e; injection e; omega); have hz := hr.lt; have d0 := hr.cell 0; have d1 := hr.cell 1; have d2 := hr.cell 2; have e0 := hr.frozen 0; have e1 := hr.frozen 1; have e2 := hr.frozen 2; simp at d0 d1 d2; have HO := Lib.hid (only_trans (only_alloc (only_alloc (only_refl w (some b)) _) _) hg1); clear hg1 hr)
      | (go_at_call 15; refine (asked_ses _ t yc ya yl ((h.alloc _).alloc _) HG.out.1 HT.out HY.out).mono ?_; rintro e w1 ⟨rfl, hs1, hg1⟩; have hr := (Blk.new2 w _ 27 _).grown hg1 (by intro e; injection e; omega); have hz := hr.lt; have d0 := hr.cell 0; have d1 := hr.cell 1; have d2 := hr.cell 2; have e0 := hr.frozen 0; have e1 := hr.frozen 1; have e2 := hr.frozen 2; simp at d0 d1 d2; have HO := Lib.hid (only_trans (only_alloc (only_alloc (only_refl w (some b)) _) _) hg1); clear hg1 hr)
      | (go_at_call 16; refine (answered_ses _ _ t ((h.alloc _).alloc _) HT.out).mono ?_; rintro e w1 ⟨rfl, hs1, hg1⟩; have hr := (Blk.new2 w _ 27 _).grown hg1 (by intro e; injection e; omega); have hz := hr.lt; have d0 := hr.cell 0; have d1 := hr.cell 1; have d2 := hr.cell 2; have e0 := hr.frozen 0; have e1 := hr.frozen 1; have e2 := hr.frozen 2; simp at d0 d1 d2; have HO := Lib.hid (only_trans (only_alloc (only_alloc (only_refl w (some b)) _) _) hg1); clear hg1 hr)
      | (go_at_call 11; refine (tick_ses t yc ya yl ((h.alloc _).alloc _) HG.out HT.out HY.out).mono ?_; rintro e w1 ⟨rfl, hs1, hg1⟩; have hr := (Blk.new2 w _ 27 _).grown hg1 (by intro e; injection e; omega); have hz := hr.lt; have d0 := hr.cell 0; have d1 := hr.cell 1; have d2 := hr.cell 2; have e0 := hr.frozen 0; have e1 := hr.frozen 1; have e2 := hr.frozen 2; simp at d0 d1 d2; have HO := Lib.hid (only_trans (only_alloc (only_alloc (only_refl w (some b)) _) _) hg1); clear hg1 hr)
      | (go_at_call 20; refine (up_ses t yc ya yl ((h.alloc _).alloc _) HG.out.1 HT.out HY.out).mono ?_; rintro e w1 ⟨rfl, hs1, hg1⟩; have hr := (Blk.new2 w _ 27 _).grown hg1 (by intro e; injection e; omega); have hz := hr.lt; have d0 := hr.cell 0; have d1 := hr.cell 1; have d2 := hr.cell 2; have e0 := hr.frozen 0; have e1 := hr.frozen 1; have e2 := hr.frozen 2; simp at d0 d1 d2; have HO := Lib.hid (only_trans (only_alloc (only_alloc (only_refl w (some b)) _) _) hg1); clear hg1 hr)
      | (go_at_call 34; refine (down_ses t ((h.alloc _).alloc _) HT.out).mono ?_; rintro e w1 ⟨rfl, hs1, hg1⟩; have hr := (Blk.new2 w _ 27 _).grown hg1 (by intro e; injection e; omega); have hz := hr.lt; have d0 := hr.cell 0; have d1 := hr.cell 1; have d2 := hr.cell 2; have e0 := hr.frozen 0; have e1 := hr.frozen 1; have e2 := hr.frozen 2; simp at d0 d1 d2; have HO := Lib.hid (only_trans (only_alloc (only_alloc (only_refl w (some b)) _) _) hg1); clear hg1 hr))
    refine bodyPost_ret (v := Y.val ⟨yc, ya, yl⟩) ?_ rfl ⟨rfl, ?_, ?_⟩
    · first
      | (simp [results, Try.results27, go_sem, Y.val, d0, d1, d2]; done)
      | (have hyq := HY.out; simp [stepY, quietY, cNone] at hyq; obtain ⟨rfl, rfl, rfl⟩ := hyq; simp [results, Try.results27, go_sem, Y.val, d0, d1, d2])
    · repeat (with_reducible first | exact hs1 | apply Ses.far' (Nat.ne_of_lt (Nat.lt_succ_of_lt hlt)) (Nat.le_succ_of_le hB))
    · repeat (with_reducible first | exact HO.out | apply only_at (Nat.le_succ _))
end Go.Proofs.Ytcdikjomiomnpaa
