/-
  The frame's small functions, each by its contract: size, may, Right, New, Waits, Idle, Reset, pick.
-/
import Derived.Test.YtpipcklnicmpfaaWords
namespace Go.Proofs.Ytpipcklnicmpfaa
open Go.RowKit
set_option linter.unusedVariables false
set_option linter.unusedSimpArgs false
theorem ret_int {k : IntKind} {a b : Int} (h : a = b) : Ending.returned (.int k a) = .returned (.int k b) := by rw [h]
theorem ret_bool {a b : Bool} (h : a = b) : Ending.returned (.bool a) = .returned (.bool b) := by rw [h]
def sizeV (h : Int) : Int := if h = 2 then 4 else if 1 ≤ h ∧ h ≤ 4 then 2 else 0
theorem size_any (h : Int) (w : World) : Calls Try.prog 40 #[.int .i64 h] w fun e w' => e = .returned (.int .i64 (sizeV h)) ∧ w = w' := by
  by_cases h1 : h = 1
  · subst h1; go_enter Try.func40, Try.ntmps40; go_wp2; go_ret; exact ⟨rfl, rfl⟩
  · by_cases h2 : h = 2
    · subst h2; go_enter Try.func40, Try.ntmps40; go_wp2; go_ret; exact ⟨rfl, rfl⟩
    · by_cases h3 : h = 3
      · subst h3; go_enter Try.func40, Try.ntmps40; go_wp2; go_ret; exact ⟨rfl, rfl⟩
      · by_cases h4 : h = 4
        · subst h4; go_enter Try.func40, Try.ntmps40; go_wp2; go_ret; exact ⟨rfl, rfl⟩
        · have e : sizeV h = 0 := by unfold sizeV; rw [if_neg h2, if_neg (by omega)]
          have e1 : (h == 1) = false := by simpa using h1
          have e2 : (h == 2) = false := by simpa using h2
          have e3 : (h == 3) = false := by simpa using h3
          have e4 : (h == 4) = false := by simpa using h4
          rw [e]
          clear e h1 h2 h3 h4
          go_enter Try.func40, Try.ntmps40; go_wp2; go_ret; exact ⟨rfl, rfl⟩
theorem size_hsz {h : Int} (h1 : 1 ≤ h) (h2 : h ≤ 4) : sizeV h = (hsz h : Int) := by
  unfold sizeV hsz; split
  · rfl
  · rw [if_pos ⟨h1, h2⟩]; rfl
def mayB (h m : Int) : Bool := decide (1 ≤ h ∧ h ≤ 4 ∧ 1 ≤ m ∧ m ≤ 9999)
theorem may_iff {h m : Int} (e : mayB h m = true) : 1 ≤ h ∧ h ≤ 4 ∧ 1 ≤ m ∧ m ≤ 9999 := by simpa [mayB] using e
theorem sizeV_pos (h : Int) : (0 < sizeV h) ↔ (1 ≤ h ∧ h ≤ 4) := by 
  unfold sizeV
  repeat' split
  all_goals omega
theorem sizeV_rng (h : Int) : 0 ≤ sizeV h ∧ sizeV h ≤ 4 := by 
  unfold sizeV
  repeat' split
  all_goals omega
set_option maxHeartbeats 400000 in
theorem may_any (h m : Int) (w : World) : Calls Try.prog 33 #[.int .i64 h, .int .i64 m] w fun e w' => e = .returned (.bool (mayB h m)) ∧ w = w' := by
  have hr := sizeV_rng h
  by_cases h1 : 1 ≤ h ∧ h ≤ 4
  · have hp := (sizeV_pos h).2 h1
    obtain ⟨h1a, h1b⟩ := h1
    by_cases h2 : 1 ≤ m
    · by_cases h3 : m ≤ 9999
      · have e : mayB h m = true := by unfold mayB; simp; omega
        rw [e]
        clear e
        go_enter Try.func33, Try.ntmps33
        go_wp2_with (go_at_call 40; refine (size_any _ _).mono ?_; rintro e w' ⟨rfl, rfl⟩)
        go_ret
        exact ⟨rfl, rfl⟩
      · have e : mayB h m = false := by unfold mayB; simp; omega
        rw [e]
        clear e
        have e3 : decide (m ≤ 9999) = false := decide_eq_false h3
        go_enter Try.func33, Try.ntmps33
        go_wp2_with (go_at_call 40; refine (size_any _ _).mono ?_; rintro e w' ⟨rfl, rfl⟩)
        go_ret
        exact ⟨rfl, rfl⟩
    · have e : mayB h m = false := by unfold mayB; simp; omega
      rw [e]
      clear e
      go_enter Try.func33, Try.ntmps33
      go_wp2_with (go_at_call 40; refine (size_any _ _).mono ?_; rintro e w' ⟨rfl, rfl⟩)
      go_ret
      exact ⟨rfl, rfl⟩
  · have hp : ¬ 0 < sizeV h := fun c => h1 ((sizeV_pos h).1 c)
    have e : mayB h m = false := by unfold mayB; simp; omega
    rw [e]
    clear e h1
    go_enter Try.func33, Try.ntmps33
    go_wp2_with (go_at_call 40; refine (size_any _ _).mono ?_; rintro e w' ⟨rfl, rfl⟩)
    go_ret
    exact ⟨rfl, rfl⟩
set_option maxHeartbeats 400000 in
theorem right_any (h m : Int) (w : World) : Calls Try.prog 34 #[.int .i64 h, .int .i64 m] w fun e w' => e = .returned (.bool (mayB h m)) ∧ w = w' := by
  by_cases h1 : 1 ≤ h
  · by_cases h1b : h ≤ 4
    · by_cases h2 : 1 ≤ m
      · by_cases h3 : m ≤ 9999
        · have e : mayB h m = true := by unfold mayB; simp; omega
          rw [e]
          clear e
          go_enter Try.func34, Try.ntmps34
          go_wp2
          go_ret
          exact ⟨rfl, rfl⟩
        · have e : mayB h m = false := by unfold mayB; simp; omega
          rw [e]
          clear e
          go_enter Try.func34, Try.ntmps34
          go_wp2
          go_ret
          exact ⟨rfl, rfl⟩
      · have e : mayB h m = false := by unfold mayB; simp; omega
        rw [e]
        clear e
        go_enter Try.func34, Try.ntmps34
        go_wp2
        go_ret
        exact ⟨rfl, rfl⟩
    · have e : mayB h m = false := by unfold mayB; simp; omega
      rw [e]
      clear e
      go_enter Try.func34, Try.ntmps34
      go_wp2
      go_ret
      exact ⟨rfl, rfl⟩
  · have e : mayB h m = false := by unfold mayB; simp; omega
    rw [e]
    clear e
    go_enter Try.func34, Try.ntmps34
    go_wp2
    go_ret
    exact ⟨rfl, rfl⟩
/-- A Stream of header h and limit m lies in block g, what waits in a row of its own. -/
def Strm (B : Nat) (w : World) (g : Nat) (v : Value) (h m : Int) (s : St) : Prop :=
  Blk w g 70 #[.int .i64 h, .int .i64 m, v, .int .i64 s.bad, .int .i64 s.idle] ∧ w.ownsRow B 5 1 v s.waits.length (bcells s.waits) ∧ v.ownBlock ≠ some g ∧ B ≤ g
theorem new_right (h m : Int) (w : World) (e : mayB h m = true) : Calls Try.prog 12 #[.int .i64 h, .int .i64 m] w fun v w' =>
    v = .returned (.tuple #[.pointer (some ⟨w.heap.size, 0, none⟩), .int .i64 0]) ∧ w' = w.alloc (.cells #[.int .i64 h, .int .i64 m, .slice none 0 0, .int .i64 0, .int .i64 0] 70) := by
  have he := Lib.hid e
  clear e
  go_enter Try.func12, Try.ntmps12
  go_wp2_with (go_at_call 33; refine (may_any _ _ _).mono ?_; rintro e w' ⟨rfl, rfl⟩; rw [he.out])
  go_ret2
  exact ⟨rfl, rfl⟩
theorem new_wrong (h m : Int) (w : World) (e : mayB h m = false) : Calls Try.prog 12 #[.int .i64 h, .int .i64 m] w fun v w' =>
    v = .returned (.tuple #[.pointer none, .int .i64 1]) ∧ w = w' := by
  have he := Lib.hid e
  clear e
  go_enter Try.func12, Try.ntmps12
  go_wp2_with (go_at_call 33; refine (may_any _ _ _).mono ?_; rintro e w' ⟨rfl, rfl⟩; rw [he.out])
  go_ret2
  exact ⟨rfl, rfl⟩
theorem strm_new (B : Nat) (w : World) (h m : Int) (hB : B ≤ w.heap.size) : Strm B (w.alloc (.cells #[.int .i64 h, .int .i64 m, .slice none 0 0, .int .i64 0, .int .i64 0] 70)) w.heap.size (.slice none 0 0) h m (fresh 0) :=
  ⟨Blk.new w 70 _, World.ownsRow_nil _ _ _ _, by simp [Value.ownBlock], hB⟩
theorem Strm.form {B : Nat} {w : World} {g : Nat} {v : Value} {h m : Int} {s : St} (hs : Strm B w g v h m s) : ∃ A cap, v = .slice A s.waits.length cap := by
  rcases hs.2.1.2 with ⟨hv, h0⟩ | ⟨k, cap, cur, hv, _⟩
  · exact ⟨none, 0, by rw [hv, h0]⟩
  · exact ⟨_, _, hv⟩
theorem waits_any {B : Nat} {w : World} {g : Nat} {v : Value} {h m : Int} {s : St} (hs : Strm B w g v h m s) : Calls Try.prog 16 #[.pointer (some ⟨g, 0, none⟩)] w fun e w' => e = .returned (.int .i64 s.waits.length) ∧ w = w' := by
  obtain ⟨A, cap, rfl⟩ := hs.form
  have x2 := hs.1.cell 2
  simp at x2
  clear hs
  go_enter Try.func16, Try.ntmps16
  go_wp2
  go_ret
  exact ⟨rfl, rfl⟩
theorem idle_any {B : Nat} {w : World} {g : Nat} {v : Value} {h m : Int} {s : St} (hs : Strm B w g v h m s) : Calls Try.prog 17 #[.pointer (some ⟨g, 0, none⟩)] w fun e w' => e = .returned (.int .i64 s.idle) ∧ w = w' := by
  have x4 := hs.1.cell 4
  simp at x4
  clear hs
  go_enter Try.func17, Try.ntmps17
  go_wp2
  go_ret
  exact ⟨rfl, rfl⟩
theorem Blk.set2 {w : World} {g : Nat} {t : TypeId} {a b c d e : Value} (h : Blk w g t #[a, b, c, d, e]) (u : Value) : Blk (w.setCell ⟨g, 2, none⟩ u) g t #[a, b, u, d, e] := h.set_eq 2 u (by rfl)
theorem Blk.set3 {w : World} {g : Nat} {t : TypeId} {a b c d e : Value} (h : Blk w g t #[a, b, c, d, e]) (u : Value) : Blk (w.setCell ⟨g, 3, none⟩ u) g t #[a, b, c, u, e] := h.set_eq 3 u (by rfl)
theorem Blk.set4 {w : World} {g : Nat} {t : TypeId} {a b c d e : Value} (h : Blk w g t #[a, b, c, d, e]) (u : Value) : Blk (w.setCell ⟨g, 4, none⟩ u) g t #[a, b, c, d, u] := h.set_eq 4 u (by rfl)
theorem reset_any {B : Nat} {w : World} {g : Nat} {v : Value} {h m : Int} {s : St} (hs : Strm B w g v h m s) : Calls Try.prog 29 #[.pointer (some ⟨g, 0, none⟩)] w fun e w' => (∃ u, e = .returned u) ∧ Strm B w' g (.slice none 0 0) h m (fresh s.idle) ∧ Fr w w' g none := by
  have x2 := hs.1.cell 2
  have x3 := hs.1.cell 3
  have xf := hs.1.frozen
  simp at x2 x3
  have HS := Lib.hid hs
  clear hs
  go_enter Try.func29, Try.ntmps29
  go_wp2
  go_end0
  exact ⟨⟨_, rfl⟩, ⟨(HS.out.1.set2 _).set3 _, World.ownsRow_nil _ _ _ _, by simp [Value.ownBlock], HS.out.2.2.2⟩, ((Fr.refl w g none).set_ (p := ⟨g, 2, none⟩) (.inl rfl) _).set_ (p := ⟨g, 3, none⟩) (.inl rfl) _⟩
set_option maxHeartbeats 400000 in
theorem pick_any (c n : Int) (w : World) (h1 : -9223372036854775808 ≤ c) (h2 : c ≤ 9223372036854775807) (hn : 0 < n) (hn2 : n ≤ 9223372036854775807) : Calls Try.prog 11 #[.int .i64 c, .int .i64 n] w fun e w' => e = .returned (.int .i64 (pickV c n)) ∧ w = w' := by
  have hne : (n == 0) = false := by simp; omega
  have hm := pick_rng c n hn
  by_cases hc : c < 0
  · have HE : Hid (pickV c n = -(c + 1) % n) := by show _ = _; unfold pickV; rw [if_pos hc]
    clear hm
    go_enter Try.func11, Try.ntmps11
    go_wp2
    go_ret
    refine ⟨ret_int ?_, rfl⟩
    rw [HE.out, ← Int.neg_tmod]
    exact Int.tmod_eq_emod_of_nonneg (by omega)
  · have HE : Hid (pickV c n = c % n) := by show _ = _; unfold pickV; rw [if_neg hc]
    clear hm
    go_enter Try.func11, Try.ntmps11
    go_wp2
    go_ret
    refine ⟨ret_int ?_, rfl⟩
    rw [HE.out]
    try exact Int.tmod_eq_emod_of_nonneg (by omega)
end Go.Proofs.Ytpipcklnicmpfaa
