/-
  A stream that is fed in pieces; what is wrapped is found: plain Lean.
-/
import Derived.Test.YtpipcklnicmpfaaCut
namespace Go.Proofs.Ytpipcklnicmpfaa
set_option linter.unusedVariables false
set_option linter.unusedSimpArgs false
/-- A Stream: what waits, what was wrong, the idle signs. -/
structure St where
  waits : Bys
  bad : Int
  idle : Nat
def feedS (h m : Int) (s : St) (b : Bys) : St :=
  if s.bad = 0 then ⟨(cut h m (s.waits ++ b)).rest, (cut h m (s.waits ++ b)).err, s.idle + (cut h m (s.waits ++ b)).idle⟩ else s
def feedM (h m : Int) (s : St) (b : Bys) : List Bys := if s.bad = 0 then (cut h m (s.waits ++ b)).ms else []
def feedE (h m : Int) (s : St) (b : Bys) : Int := if s.bad = 0 then (cut h m (s.waits ++ b)).err else s.bad
theorem feedE_bad (h m : Int) (s : St) (b : Bys) : feedE h m s b = (feedS h m s b).bad := by
  unfold feedE feedS; split <;> rfl
def pickV (c n : Int) : Int := (if c < 0 then -(c + 1) else c) % n
theorem pick_rng (c n : Int) (hn : 0 < n) : 0 ≤ pickV c n ∧ pickV c n < n := ⟨Int.emod_nonneg _ (by omega), Int.emod_lt_of_pos _ hn⟩
/-- The whole stream, as it is fed in pieces. -/
def fedS (h m : Int) : List Int → St → Bys → St
  | [], st, s => feedS h m st s
  | c :: cs, st, s => if s = [] then feedS h m st s else fedS h m cs (feedS h m st (s.take (pickV c (s.length + 1)).toNat)) (s.drop (pickV c (s.length + 1)).toNat)
def fedM (h m : Int) : List Int → St → Bys → List Bys
  | [], st, s => feedM h m st s
  | c :: cs, st, s => if s = [] then feedM h m st s else feedM h m st (s.take (pickV c (s.length + 1)).toNat) ++ fedM h m cs (feedS h m st (s.take (pickV c (s.length + 1)).toNat)) (s.drop (pickV c (s.length + 1)).toNat)
theorem fed_all (h m : Int) : ∀ (cs : List Int) (st : St) (s : Bys), fedS h m cs st s = feedS h m st s ∧ fedM h m cs st s = feedM h m st s
  | [], st, s => ⟨rfl, rfl⟩
  | c :: cs, st, s => by
    unfold fedS fedM
    by_cases hs : s = []
    · rw [if_pos hs, if_pos hs]; exact ⟨rfl, rfl⟩
    · rw [if_neg hs, if_neg hs]
      obtain ⟨i1, i2⟩ := fed_all h m cs (feedS h m st (s.take (pickV c (s.length + 1)).toNat)) (s.drop (pickV c (s.length + 1)).toNat)
      rw [i1, i2]
      generalize (pickV c (s.length + 1)).toNat = k
      by_cases hb : st.bad = 0
      · have e : st.waits ++ s = (st.waits ++ s.take k) ++ s.drop k := by rw [List.append_assoc, List.take_append_drop]
        unfold feedS feedM
        rw [if_pos hb, if_pos hb, if_pos hb, if_pos hb, e]
        by_cases he : (cut h m (st.waits ++ s.take k)).err = 0
        · rw [if_pos he, if_pos he, cut_two h m _ _ he]
          exact ⟨by simp [Cut.after, Nat.add_assoc], rfl⟩
        · rw [if_neg he, if_neg he, cut_err h m _ _ he]
          exact ⟨rfl, by simp⟩
      · unfold feedS feedM
        rw [if_neg hb, if_neg hb, if_neg hb, if_neg hb]
        simp [hb]
def fresh (i : Nat) : St := ⟨[], 0, i⟩
theorem feed_fresh (h m : Int) (i : Nat) (s : Bys) : feedS h m (fresh i) s = ⟨(cut h m s).rest, (cut h m s).err, i + (cut h m s).idle⟩ ∧ feedM h m (fresh i) s = (cut h m s).ms := by
  unfold feedS feedM fresh; simp

/-- The header of a message. -/
def hdrN (h : Int) (n : Nat) : List Nat :=
  if h = 2 then [48 + n / 1000, 48 + n / 100 % 10, 48 + n / 10 % 10, 48 + n % 10]
  else if h = 3 then [n / 1000 * 16 + n / 100 % 10, n / 10 % 10 * 16 + n % 10]
  else if h = 4 then [(n + 2) / 256, (n + 2) % 256]
  else [n / 256, n % 256]
def hdrV (h : Int) (n : Nat) : Bys := (hdrN h n).map UInt8.ofNat
theorem hdr_len (h : Int) (n : Nat) : (hdrV h n).length = hsz h := by
  unfold hdrV hdrN hsz; repeat' split
  all_goals first | rfl | omega
theorem bn_ofNat {x : Nat} (hx : x < 256) : bn (UInt8.ofNat x) = (x : Int) := by
  unfold bn
  rw [UInt8.toNat_ofNat_of_lt' hx]
theorem told_hdr (h : Int) (n : Nat) (hn : n ≤ 9999) : toldI h (hdrV h n) = ((n : Int), true) := by
  unfold toldI hdrV hdrN
  by_cases h2 : h = 2
  · rw [if_pos h2, if_pos h2]
    simp only [List.map_cons, List.map_nil, digs]
    rw [bn_ofNat (by omega), bn_ofNat (by omega), bn_ofNat (by omega), bn_ofNat (by omega)]
    rw [if_neg (by omega), if_neg (by omega), if_neg (by omega), if_neg (by omega)]
    congr 1
    omega
  · rw [if_neg h2, if_neg h2]
    by_cases h3 : h = 3
    · rw [if_pos h3, if_pos h3]
      simp only [List.map_cons, List.map_nil, bcds]
      rw [bn_ofNat (by omega), bn_ofNat (by omega)]
      rw [if_neg (by omega), if_neg (by omega)]
      congr 1
      omega
    · rw [if_neg h3, if_neg h3]
      unfold bins
      by_cases h4 : h = 4
      · rw [if_pos h4, if_pos h4]
        simp only [List.map_cons, List.map_nil, List.getD_cons_zero, List.getD_cons_succ]
        rw [bn_ofNat (by omega), bn_ofNat (by omega)]
        have e : 256 * ((((n + 2) / 256 : Nat)) : Int) + (((n + 2) % 256 : Nat) : Int) - 2 = n := by omega
        rw [e]
        simp
      · rw [if_neg h4, if_neg h4]
        simp only [List.map_cons, List.map_nil, List.getD_cons_zero, List.getD_cons_succ]
        rw [bn_ofNat (by omega), bn_ofNat (by omega)]
        have e : 256 * ((((n) / 256 : Nat)) : Int) + (((n) % 256 : Nat) : Int) - 0 = n := by omega
        rw [e]
        simp
theorem cut_nil (h m : Int) : cut h m [] = ⟨[], 0, [], 0⟩ := cut_short (by have := hsz_pos h; simp; omega)
theorem cut_wrap (h m : Int) (msg : Bys) (h1 : 0 < msg.length) (h2 : (msg.length : Int) ≤ m) (hm : m ≤ 9999) : cut h m (hdrV h msg.length ++ msg) = ⟨[msg], 0, [], 0⟩ := by
  have hl := hdr_len h msg.length
  have ht : (hdrV h msg.length ++ msg).take (hsz h) = hdrV h msg.length := by rw [← hl]; exact List.take_left' rfl
  have hd : (hdrV h msg.length ++ msg).drop (hsz h) = msg := by rw [← hl]; exact List.drop_left' rfl
  have e := told_hdr h msg.length (by omega)
  rw [cut_msg (by rw [List.length_append, hl]; omega) (by rw [ht, e]) (by rw [ht, e]; simp only; omega) (by rw [ht, e, List.length_append, hl]; simp) (by rw [ht, e]; simp only; omega), ht, e, hd]
  simp only [Int.toNat_natCast, List.take_length]
  rw [show (hdrV h msg.length ++ msg).drop (hsz h + msg.length) = [] by rw [List.drop_eq_nil_iff, List.length_append, hl]; omega, cut_nil]
  rfl
theorem cut_sign (h m : Int) (hm : 0 ≤ m) : cut h m (hdrV h 0) = ⟨[], 1, [], 0⟩ := by
  have hl := hdr_len h 0
  have ht : (hdrV h 0).take (hsz h) = hdrV h 0 := by rw [← hl]; exact List.take_length
  have e := told_hdr h 0 (by omega)
  rw [cut_idle (by rw [hl]; omega) (by rw [ht, e]) (by rw [ht, e]; simp only; omega) (by rw [ht, e, hl]; simp) (by rw [ht, e]; rfl), ht, e]
  simp only [Int.toNat_natCast]
  rw [show (hdrV h 0).drop (hsz h + 0) = [] by rw [List.drop_eq_nil_iff, hl]; omega, cut_nil]
  rfl
theorem cut_then_wrap {h m : Int} {s : Bys} {ms : List Bys} {i : Nat} (hc : cut h m s = ⟨ms, i, [], 0⟩) (msg : Bys) (h1 : 0 < msg.length) (h2 : (msg.length : Int) ≤ m) (hm : m ≤ 9999) :
    cut h m (s ++ (hdrV h msg.length ++ msg)) = ⟨ms ++ [msg], i, [], 0⟩ := by
  rw [cut_two h m _ _ (by rw [hc]), hc]
  simp only [List.nil_append]
  rw [cut_wrap h m msg h1 h2 hm]
  rfl
theorem cut_then_sign {h m : Int} {s : Bys} {ms : List Bys} {i : Nat} (hc : cut h m s = ⟨ms, i, [], 0⟩) (hm : 0 ≤ m) : cut h m (s ++ hdrV h 0) = ⟨ms, i + 1, [], 0⟩ := by
  rw [cut_two h m _ _ (by rw [hc]), hc]
  simp only [List.nil_append]
  rw [cut_sign h m hm]
  simp [Cut.after]
end Go.Proofs.Ytpipcklnicmpfaa
