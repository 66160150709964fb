/-
  What a stream is cut into, in plain Lean: headers, frames, pieces.
-/
import Derived.Laws.BytesArg
namespace Go.Proofs.Ytpipcklnicmpfaa
set_option linter.unusedVariables false
set_option linter.unusedSimpArgs false
abbrev Bys := List UInt8
/-- A byte as the model's number. -/
def bn (b : UInt8) : Int := ((b.toNat : Nat) : Int)
theorem bn_rng (b : UInt8) : 0 ≤ bn b ∧ bn b < 256 := by have := b.toNat_lt; unfold bn; omega
def bstr (l : Bys) : ByteArray := ⟨l.toArray⟩
def bcells (l : Bys) : List Value := l.map fun b => Value.int .u8 (bn b)
theorem bcells_len (l : Bys) : (bcells l).length = l.length := by simp [bcells]
theorem bstr_size (l : Bys) : (bstr l).size = l.length := rfl
theorem bstr_append (a b : Bys) : bstr a ++ bstr b = bstr (a ++ b) := by
  apply ByteArray.ext
  simp [bstr, ByteArray.data_append]
theorem bstr_of (s : ByteArray) : bstr s.data.toList = s := by
  apply ByteArray.ext
  simp [bstr]
theorem bstr_inj {a b : Bys} (h : bstr a = bstr b) : a = b := by
  have := congrArg (fun s : ByteArray => s.data.toList) h
  simpa [bstr] using this
theorem bn_of (b : UInt8) : UInt8.ofNat (bn b).toNat = b := by
  unfold bn
  rw [Int.toNat_natCast]
  exact UInt8.ofNat_toNat
theorem strOfNums_bys (l : Bys) : strOfNums (l.map bn) = bstr l := by
  apply ByteArray.ext
  have e : (fun n : Int => UInt8.ofNat n.toNat) ∘ bn = id := funext bn_of
  simp [strOfNums, bstr, e]

/-- How many bytes a header has. -/
def hsz (h : Int) : Nat := if h = 2 then 4 else 2
theorem hsz_pos (h : Int) : 2 ≤ hsz h ∧ hsz h ≤ 4 := by unfold hsz; split <;> omega
/-- Digits. -/
def digs : Bys → Int → Int × Bool
  | [], n => (n, true)
  | c :: l, n => if bn c < 48 ∨ 57 < bn c then (0, false) else digs l (10 * n + (bn c - 48))
/-- Half bytes. -/
def bcds : Bys → Int → Int × Bool
  | [], n => (n, true)
  | c :: l, n => if 9 < bn c / 16 ∨ 9 < bn c % 16 then (0, false) else bcds l (100 * n + 10 * (bn c / 16) + bn c % 16)
def bins (h : Int) (l : Bys) : Int := 256 * bn (l.getD 0 0) + bn (l.getD 1 0) - (if h = 4 then 2 else 0)
/-- What a header says. -/
def toldI (h : Int) (l : Bys) : Int × Bool :=
  if h = 2 then digs l 0 else if h = 3 then bcds l 0 else (bins h l, decide (0 ≤ bins h l))
theorem digs_nn : ∀ (l : Bys) (n : Int), 0 ≤ n → (digs l n).2 = true → 0 ≤ (digs l n).1
  | [], n, h, _ => h
  | c :: l, n, h, e => by
    unfold digs at e ⊢
    by_cases hc : bn c < 48 ∨ 57 < bn c
    · rw [if_pos hc] at e; cases e
    · rw [if_neg hc] at e ⊢
      exact digs_nn l _ (by omega) e
theorem bcds_nn : ∀ (l : Bys) (n : Int), 0 ≤ n → (bcds l n).2 = true → 0 ≤ (bcds l n).1
  | [], n, h, _ => h
  | c :: l, n, h, e => by
    unfold bcds at e ⊢
    have := bn_rng c
    by_cases hc : 9 < bn c / 16 ∨ 9 < bn c % 16
    · rw [if_pos hc] at e; cases e
    · rw [if_neg hc] at e ⊢
      exact bcds_nn l _ (by omega) e
theorem told_nn {h : Int} {l : Bys} (e : (toldI h l).2 = true) : 0 ≤ (toldI h l).1 := by
  unfold toldI at e ⊢
  split
  · rename_i h2; rw [if_pos h2] at e; exact digs_nn l 0 (by omega) e
  · rename_i h2
    rw [if_neg h2] at e
    split
    · rename_i h3; rw [if_pos h3] at e; exact bcds_nn l 0 (by omega) e
    · rename_i h3; rw [if_neg h3] at e; simpa using e

/-- What a stream is cut into: its messages, its idle signs, what waits, what is wrong. -/
structure Cut where
  ms : List Bys
  idle : Nat
  rest : Bys
  err : Int
def Cut.after (c : Cut) (ms : List Bys) (i : Nat) : Cut := ⟨ms ++ c.ms, i + c.idle, c.rest, c.err⟩
theorem Cut.after_nil (c : Cut) : c.after [] 0 = c := by simp [Cut.after]
theorem Cut.after_after (c : Cut) (ms ms' : List Bys) (i i' : Nat) : (c.after ms' i').after ms i = c.after (ms ++ ms') (i + i') := by
  simp [Cut.after, Nat.add_assoc]
def cutS (h m : Int) (l : Bys) (k : Bys → Cut) : Cut :=
  if l.length < hsz h then ⟨[], 0, l, 0⟩
  else if (toldI h (l.take (hsz h))).2 = false then ⟨[], 0, [], 140⟩
  else if m < (toldI h (l.take (hsz h))).1 then ⟨[], 0, [], 141⟩
  else if l.length < hsz h + (toldI h (l.take (hsz h))).1.toNat then ⟨[], 0, l, 0⟩
  else if (toldI h (l.take (hsz h))).1 = 0 then (k (l.drop (hsz h + (toldI h (l.take (hsz h))).1.toNat))).after [] 1
  else (k (l.drop (hsz h + (toldI h (l.take (hsz h))).1.toNat))).after [(l.drop (hsz h)).take (toldI h (l.take (hsz h))).1.toNat] 0
def cutF (h m : Int) : Nat → Bys → Cut
  | 0, l => ⟨[], 0, l, 0⟩
  | f + 1, l => cutS h m l (cutF h m f)
theorem cutF_step (h m : Int) (f : Nat) (l : Bys) : cutF h m (f + 1) l = cutS h m l (cutF h m f) := rfl
theorem cutF_more (h m : Int) : ∀ (f : Nat) (l : Bys), l.length < f → cutF h m (f + 1) l = cutF h m f l
  | 0, l, hl => absurd hl (by omega)
  | f + 1, l, hl => by
    rw [cutF_step h m (f + 1) l, cutF_step h m f l]
    unfold cutS
    have hp := hsz_pos h
    by_cases h1 : l.length < hsz h
    · rw [if_pos h1, if_pos h1]
    · rw [if_neg h1, if_neg h1]
      by_cases h2 : (toldI h (l.take (hsz h))).2 = false
      · rw [if_pos h2, if_pos h2]
      · rw [if_neg h2, if_neg h2]
        by_cases h3 : m < (toldI h (l.take (hsz h))).1
        · rw [if_pos h3, if_pos h3]
        · rw [if_neg h3, if_neg h3]
          by_cases h4 : l.length < hsz h + (toldI h (l.take (hsz h))).1.toNat
          · rw [if_pos h4, if_pos h4]
          · rw [if_neg h4, if_neg h4, cutF_more h m f _ (by rw [List.length_drop]; omega)]
theorem cutF_fuel (h m : Int) (l : Bys) : ∀ k, cutF h m (l.length + 1 + k) l = cutF h m (l.length + 1) l
  | 0 => rfl
  | k + 1 => by rw [← Nat.add_assoc, cutF_more h m _ l (by omega), cutF_fuel h m l k]
def cut (h m : Int) (l : Bys) : Cut := cutF h m (l.length + 1) l
theorem cutF_cut (h m : Int) (f : Nat) (l : Bys) (hf : l.length < f) : cutF h m f l = cut h m l := by
  obtain ⟨k, rfl⟩ : ∃ k, f = l.length + 1 + k := ⟨f - (l.length + 1), by omega⟩
  exact cutF_fuel h m l k
section
variable {h m : Int} {l : Bys}
theorem cut_short (h1 : l.length < hsz h) : cut h m l = ⟨[], 0, l, 0⟩ := by
  unfold cut; rw [cutF_step]; unfold cutS; rw [if_pos h1]
theorem cut_bad (h1 : ¬ l.length < hsz h) (h2 : (toldI h (l.take (hsz h))).2 = false) : cut h m l = ⟨[], 0, [], 140⟩ := by
  unfold cut; rw [cutF_step]; unfold cutS; rw [if_neg h1, if_pos h2]
theorem cut_long (h1 : ¬ l.length < hsz h) (h2 : (toldI h (l.take (hsz h))).2 = true) (h3 : m < (toldI h (l.take (hsz h))).1) : cut h m l = ⟨[], 0, [], 141⟩ := by
  unfold cut; rw [cutF_step]; unfold cutS; rw [if_neg h1, if_neg (by rw [h2]; simp), if_pos h3]
theorem cut_wait (h1 : ¬ l.length < hsz h) (h2 : (toldI h (l.take (hsz h))).2 = true) (h3 : ¬ m < (toldI h (l.take (hsz h))).1) (h4 : l.length < hsz h + (toldI h (l.take (hsz h))).1.toNat) : cut h m l = ⟨[], 0, l, 0⟩ := by
  unfold cut; rw [cutF_step]; unfold cutS; rw [if_neg h1, if_neg (by rw [h2]; simp), if_neg h3, if_pos h4]
theorem cut_idle (h1 : ¬ l.length < hsz h) (h2 : (toldI h (l.take (hsz h))).2 = true) (h3 : ¬ m < (toldI h (l.take (hsz h))).1) (h4 : ¬ l.length < hsz h + (toldI h (l.take (hsz h))).1.toNat) (h5 : (toldI h (l.take (hsz h))).1 = 0) :
    cut h m l = (cut h m (l.drop (hsz h + (toldI h (l.take (hsz h))).1.toNat))).after [] 1 := by
  have hp := hsz_pos h
  conv => lhs; unfold cut
  rw [cutF_step]
  unfold cutS
  rw [if_neg h1, if_neg (by rw [h2]; simp), if_neg h3, if_neg h4, if_pos h5, cutF_cut h m _ _ (by rw [List.length_drop]; omega)]
theorem cut_msg (h1 : ¬ l.length < hsz h) (h2 : (toldI h (l.take (hsz h))).2 = true) (h3 : ¬ m < (toldI h (l.take (hsz h))).1) (h4 : ¬ l.length < hsz h + (toldI h (l.take (hsz h))).1.toNat) (h5 : ¬ (toldI h (l.take (hsz h))).1 = 0) :
    cut h m l = (cut h m (l.drop (hsz h + (toldI h (l.take (hsz h))).1.toNat))).after [(l.drop (hsz h)).take (toldI h (l.take (hsz h))).1.toNat] 0 := by
  have hp := hsz_pos h
  conv => lhs; unfold cut
  rw [cutF_step]
  unfold cutS
  rw [if_neg h1, if_neg (by rw [h2]; simp), if_neg h3, if_neg h4, if_neg h5, cutF_cut h m _ _ (by rw [List.length_drop]; omega)]
end
/-- A stream in two pieces. -/
theorem cut_append (h m : Int) (b : Bys) : ∀ (k : Nat) (a : Bys), a.length ≤ k →
    ((cut h m a).err = 0 → cut h m (a ++ b) = (cut h m ((cut h m a).rest ++ b)).after (cut h m a).ms (cut h m a).idle) ∧
    ((cut h m a).err ≠ 0 → cut h m (a ++ b) = cut h m a)
  | k, a, hk => by
    have hp := hsz_pos h
    by_cases h1 : a.length < hsz h
    · rw [cut_short h1]
      exact ⟨fun _ => by simp [Cut.after], fun e => absurd rfl e⟩
    · have ht : (a ++ b).take (hsz h) = a.take (hsz h) := List.take_append_of_le_length (by omega)
      have h1' : ¬ (a ++ b).length < hsz h := by rw [List.length_append]; omega
      by_cases h2 : (toldI h (a.take (hsz h))).2 = false
      · rw [cut_bad h1 h2, cut_bad h1' (by rw [ht]; exact h2)]
        exact ⟨fun e => absurd e (by simp), fun _ => rfl⟩
      · have h2' : (toldI h (a.take (hsz h))).2 = true := by simpa using h2
        by_cases h3 : m < (toldI h (a.take (hsz h))).1
        · rw [cut_long h1 h2' h3, cut_long h1' (by rw [ht]; exact h2') (by rw [ht]; exact h3)]
          exact ⟨fun e => absurd e (by simp), fun _ => rfl⟩
        · by_cases h4 : a.length < hsz h + (toldI h (a.take (hsz h))).1.toNat
          · rw [cut_wait h1 h2' h3 h4]
            exact ⟨fun _ => by simp [Cut.after], fun e => absurd rfl e⟩
          · have h4' : ¬ (a ++ b).length < hsz h + (toldI h (a.take (hsz h))).1.toNat := by rw [List.length_append]; omega
            have hd : (a ++ b).drop (hsz h + (toldI h (a.take (hsz h))).1.toNat) = a.drop (hsz h + (toldI h (a.take (hsz h))).1.toNat) ++ b := List.drop_append_of_le_length (by omega)
            have hlt : (a.drop (hsz h + (toldI h (a.take (hsz h))).1.toNat)).length < a.length := by rw [List.length_drop]; omega
            match k, hk with
            | 0, hk => exact absurd hk (by omega)
            | k + 1, hk =>
              obtain ⟨i1, i2⟩ := cut_append h m b k (a.drop (hsz h + (toldI h (a.take (hsz h))).1.toNat)) (by omega)
              by_cases h5 : (toldI h (a.take (hsz h))).1 = 0
              · rw [cut_idle h1 h2' h3 h4 h5, cut_idle h1' (by rw [ht]; exact h2') (by rw [ht]; exact h3) (by rw [ht]; exact h4') (by rw [ht]; exact h5), ht, hd]
                exact ⟨fun e => by rw [i1 e, Cut.after_after]; rfl, fun e => by rw [i2 e]⟩
              · have hm : ((a ++ b).drop (hsz h)).take (toldI h (a.take (hsz h))).1.toNat = (a.drop (hsz h)).take (toldI h (a.take (hsz h))).1.toNat := by
                  rw [List.drop_append_of_le_length (by omega), List.take_append_of_le_length (by rw [List.length_drop]; omega)]
                rw [cut_msg h1 h2' h3 h4 h5, cut_msg h1' (by rw [ht]; exact h2') (by rw [ht]; exact h3) (by rw [ht]; exact h4') (by rw [ht]; exact h5), ht, hd, hm]
                exact ⟨fun e => by rw [i1 e, Cut.after_after]; rfl, fun e => by rw [i2 e]⟩
theorem cut_two (h m : Int) (a b : Bys) (e : (cut h m a).err = 0) : cut h m (a ++ b) = (cut h m ((cut h m a).rest ++ b)).after (cut h m a).ms (cut h m a).idle :=
  (cut_append h m b a.length a (Nat.le_refl _)).1 e
theorem cut_err (h m : Int) (a b : Bys) (e : (cut h m a).err ≠ 0) : cut h m (a ++ b) = cut h m a :=
  (cut_append h m b a.length a (Nat.le_refl _)).2 e
/-- What is wrong lets nothing wait; what waits is no longer than what came. -/
theorem cut_facts (h m : Int) : ∀ (k : Nat) (a : Bys), a.length ≤ k → ((cut h m a).err ≠ 0 → (cut h m a).rest = []) ∧ (cut h m a).rest.length ≤ a.length ∧ (cut h m a).ms.length + (cut h m a).idle ≤ a.length ∧ ((cut h m a).err = 0 ∨ (cut h m a).err = 140 ∨ (cut h m a).err = 141)
  | k, a, hk => by
    have hp := hsz_pos h
    by_cases h1 : a.length < hsz h
    · rw [cut_short h1]; simp
    · by_cases h2 : (toldI h (a.take (hsz h))).2 = false
      · rw [cut_bad h1 h2]; simp
      · have h2' : (toldI h (a.take (hsz h))).2 = true := by simpa using h2
        by_cases h3 : m < (toldI h (a.take (hsz h))).1
        · rw [cut_long h1 h2' h3]; simp
        · by_cases h4 : a.length < hsz h + (toldI h (a.take (hsz h))).1.toNat
          · rw [cut_wait h1 h2' h3 h4]; simp
          · have hlt : (a.drop (hsz h + (toldI h (a.take (hsz h))).1.toNat)).length < a.length := by rw [List.length_drop]; omega
            match k, hk with
            | 0, hk => exact absurd hk (by omega)
            | k + 1, hk =>
              obtain ⟨i1, i2, i3, i4⟩ := cut_facts h m k (a.drop (hsz h + (toldI h (a.take (hsz h))).1.toNat)) (by omega)
              by_cases h5 : (toldI h (a.take (hsz h))).1 = 0
              · rw [cut_idle h1 h2' h3 h4 h5]
                exact ⟨i1, by show (cut h m _).rest.length ≤ _; omega, by simp only [Cut.after, List.nil_append]; omega, i4⟩
              · rw [cut_msg h1 h2' h3 h4 h5]
                exact ⟨i1, by show (cut h m _).rest.length ≤ _; omega, by simp only [Cut.after, List.length_append, List.length_singleton]; omega, i4⟩
theorem cut_wrong {h m : Int} {a : Bys} (e : (cut h m a).err ≠ 0) : (cut h m a).rest = [] := (cut_facts h m a.length a (Nat.le_refl _)).1 e
theorem cut_rest (h m : Int) (a : Bys) : (cut h m a).rest.length ≤ a.length := (cut_facts h m a.length a (Nat.le_refl _)).2.1
theorem cut_many (h m : Int) (a : Bys) : (cut h m a).ms.length + (cut h m a).idle ≤ a.length := (cut_facts h m a.length a (Nat.le_refl _)).2.2.1
theorem cut_errs (h m : Int) (a : Bys) : (cut h m a).err = 0 ∨ (cut h m a).err = 140 ∨ (cut h m a).err = 141 := (cut_facts h m a.length a (Nat.le_refl _)).2.2.2
/-- What waits is cut into nothing. -/
theorem cut_again (h m : Int) : ∀ (k : Nat) (a : Bys), a.length ≤ k → (cut h m a).err = 0 → cut h m (cut h m a).rest = ⟨[], 0, (cut h m a).rest, 0⟩
  | k, a, hk => by
    have hp := hsz_pos h
    by_cases h1 : a.length < hsz h
    · rw [cut_short h1]; intro _; exact cut_short h1
    · by_cases h2 : (toldI h (a.take (hsz h))).2 = false
      · rw [cut_bad h1 h2]; intro e; exact absurd e (by simp)
      · have h2' : (toldI h (a.take (hsz h))).2 = true := by simpa using h2
        by_cases h3 : m < (toldI h (a.take (hsz h))).1
        · rw [cut_long h1 h2' h3]; intro e; exact absurd e (by simp)
        · by_cases h4 : a.length < hsz h + (toldI h (a.take (hsz h))).1.toNat
          · rw [cut_wait h1 h2' h3 h4]; intro _; exact cut_wait h1 h2' h3 h4
          · have hlt : (a.drop (hsz h + (toldI h (a.take (hsz h))).1.toNat)).length < a.length := by rw [List.length_drop]; omega
            match k, hk with
            | 0, hk => exact absurd hk (by omega)
            | k + 1, hk =>
              have i1 := cut_again h m k (a.drop (hsz h + (toldI h (a.take (hsz h))).1.toNat)) (by omega)
              by_cases h5 : (toldI h (a.take (hsz h))).1 = 0
              · rw [cut_idle h1 h2' h3 h4 h5]; exact i1
              · rw [cut_msg h1 h2' h3 h4 h5]; exact i1
end Go.Proofs.Ytpipcklnicmpfaa
