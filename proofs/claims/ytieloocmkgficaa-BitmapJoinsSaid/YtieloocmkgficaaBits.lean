/-
  Halves in plain Lean: ones of a number, sets and strikes of a bit, And and Less.
-/
import Derived.KernelRfl
namespace Go.Proofs.Ytieloocmkgficaa
set_option linter.unusedVariables false
set_option linter.unusedSimpArgs false
/-- the ones among the first n bits -/
def pcN : Nat → Nat → Nat
  | 0, _ => 0
  | n + 1, x => x % 2 + pcN n (x / 2)
theorem pcN_add : ∀ (a b x : Nat), pcN (a + b) x = pcN a x + pcN b (x / 2 ^ a)
  | 0, b, x => by simp [pcN]
  | a + 1, b, x => by
    rw [show a + 1 + b = (a + b) + 1 by omega, pcN, pcN, pcN_add a b, Nat.div_div_eq_div_mul, Nat.pow_succ, Nat.mul_comm 2, Nat.add_assoc]
theorem pcN_mod : ∀ (a x : Nat), pcN a (x % 2 ^ a) = pcN a x
  | 0, x => rfl
  | a + 1, x => by
    rw [pcN, pcN, ← pcN_mod a (x / 2)]
    have h1 : x % 2 ^ (a + 1) % 2 = x % 2 := Nat.mod_mod_of_dvd _ ⟨2 ^ a, by rw [Nat.pow_succ, Nat.mul_comm]⟩
    have h2 : x % 2 ^ (a + 1) / 2 = x / 2 % 2 ^ a := by
      rw [Nat.pow_succ, Nat.mul_comm, Nat.mod_mul_right_div_self]
    rw [h1, h2]
theorem and_byte (a b c d : Nat) (hb : b < 256) (hd : d < 256) : (256 * a + b) &&& (256 * c + d) = 256 * (a &&& c) + (b &&& d) := by
  have e1 : ((256 * a + b) &&& (256 * c + d)) % 2 ^ 8 = b &&& d := by
    rw [Nat.and_mod_two_pow]; congr 1 <;> omega
  have e2 : ((256 * a + b) &&& (256 * c + d)) / 2 ^ 8 = a &&& c := by
    rw [Nat.and_div_two_pow]; congr 1 <;> omega
  omega
def by8 (b0 b1 b2 b3 b4 b5 b6 b7 : Nat) : Nat := 256 * (256 * (256 * (256 * (256 * (256 * (256 * b7 + b6) + b5) + b4) + b3) + b2) + b1) + b0
theorem by8_and {b0 b1 b2 b3 b4 b5 b6 b7 m : Nat} (h0 : b0 < 256) (h1 : b1 < 256) (h2 : b2 < 256) (h3 : b3 < 256) (h4 : b4 < 256) (h5 : b5 < 256) (h6 : b6 < 256) (h7 : b7 < 256) (hm : m < 256) :
    by8 b0 b1 b2 b3 b4 b5 b6 b7 &&& by8 m m m m m m m m = by8 (b0 &&& m) (b1 &&& m) (b2 &&& m) (b3 &&& m) (b4 &&& m) (b5 &&& m) (b6 &&& m) (b7 &&& m) := by
  unfold by8
  rw [and_byte _ _ _ _ h0 hm, and_byte _ _ _ _ h1 hm, and_byte _ _ _ _ h2 hm, and_byte _ _ _ _ h3 hm, and_byte _ _ _ _ h4 hm, and_byte _ _ _ _ h5 hm, and_byte _ _ _ _ h6 hm]
theorem half_mask : ∀ b : Fin 256, ∀ c : Fin 2, (b.val / 2 + 128 * c.val) &&& 0x55 = b.val / 2 &&& 0x55 := by decide +kernel
theorem quar_mask : ∀ b : Fin 256, ∀ c : Fin 4, (b.val / 4 + 64 * c.val) &&& 0x33 = b.val / 4 &&& 0x33 := by decide +kernel
def s1 (b : Nat) : Nat := (b / 2 &&& 0x55) + (b &&& 0x55)
def s2 (b : Nat) : Nat := (b / 4 &&& 0x33) + (b &&& 0x33)
def s3 (b : Nat) : Nat := (b / 16 + b) % 16
theorem s1_le : ∀ b : Fin 256, s1 b.val ≤ 0xAA := by decide +kernel
theorem s2_le : ∀ b : Fin 256, s2 (s1 b.val) / 16 ≤ 4 ∧ s2 (s1 b.val) % 16 ≤ 4 := by decide +kernel
theorem s3_eq : ∀ b : Fin 256, s3 (s2 (s1 b.val)) = pcN 8 b.val := by decide +kernel
theorem lowmask : ∀ b : Fin 256, b.val &&& 15 = b.val % 16 := by decide +kernel
theorem pc8_le : ∀ b : Fin 256, pcN 8 b.val ≤ 8 := by decide +kernel
theorem by8_of (x : Nat) (h : x < 2 ^ 64) : ∃ b0 b1 b2 b3 b4 b5 b6 b7 : Nat, x = by8 b0 b1 b2 b3 b4 b5 b6 b7 ∧ b0 < 256 ∧ b1 < 256 ∧ b2 < 256 ∧ b3 < 256 ∧ b4 < 256 ∧ b5 < 256 ∧ b6 < 256 ∧ b7 < 256 := by
  refine ⟨x % 256, x / 256 % 256, x / 256 / 256 % 256, x / 256 / 256 / 256 % 256, x / 256 / 256 / 256 / 256 % 256, x / 256 / 256 / 256 / 256 / 256 % 256, x / 256 / 256 / 256 / 256 / 256 / 256 % 256, x / 256 / 256 / 256 / 256 / 256 / 256 / 256, ?_, ?_, ?_, ?_, ?_, ?_, ?_, ?_, ?_⟩
  · unfold by8; omega
  all_goals omega
def y1 (x : Nat) : Nat := (x / 2 &&& 0x5555555555555555) + (x &&& 0x5555555555555555)
def y2 (x : Nat) : Nat := (x / 4 &&& 0x3333333333333333) + (x &&& 0x3333333333333333)
def y3 (x : Nat) : Nat := (x / 16 + x) &&& 0x0f0f0f0f0f0f0f0f
def y4 (x : Nat) : Nat := x + x / 256
def y5 (x : Nat) : Nat := x + x / 65536
def y6 (x : Nat) : Nat := x + x / 4294967296
theorem hm (b c : Nat) (h : b < 256) : ((b / 2 + 128 * (c % 2)) &&& 0x55) = b / 2 &&& 0x55 := half_mask ⟨b, h⟩ ⟨c % 2, by omega⟩
theorem qm (b c : Nat) (h : b < 256) : ((b / 4 + 64 * (c % 4)) &&& 0x33) = b / 4 &&& 0x33 := quar_mask ⟨b, h⟩ ⟨c % 4, by omega⟩
theorem lm (b : Nat) (h : b < 256) : b &&& 0x0f = b % 16 := lowmask ⟨b, h⟩
theorem y1_by8 {b0 b1 b2 b3 b4 b5 b6 b7 : Nat} (h0 : b0 < 256) (h1 : b1 < 256) (h2 : b2 < 256) (h3 : b3 < 256) (h4 : b4 < 256) (h5 : b5 < 256) (h6 : b6 < 256) (h7 : b7 < 256) :
    y1 (by8 b0 b1 b2 b3 b4 b5 b6 b7) = by8 (s1 b0) (s1 b1) (s1 b2) (s1 b3) (s1 b4) (s1 b5) (s1 b6) (s1 b7) := by
  unfold y1
  have e : by8 b0 b1 b2 b3 b4 b5 b6 b7 / 2 = by8 (b0 / 2 + 128 * (b1 % 2)) (b1 / 2 + 128 * (b2 % 2)) (b2 / 2 + 128 * (b3 % 2)) (b3 / 2 + 128 * (b4 % 2)) (b4 / 2 + 128 * (b5 % 2)) (b5 / 2 + 128 * (b6 % 2)) (b6 / 2 + 128 * (b7 % 2)) (b7 / 2 + 128 * (0 % 2)) := by
    unfold by8; omega
  rw [e, show 0x5555555555555555 = by8 0x55 0x55 0x55 0x55 0x55 0x55 0x55 0x55 from rfl, by8_and (by omega) (by omega) (by omega) (by omega) (by omega) (by omega) (by omega) (by omega) (by omega), by8_and h0 h1 h2 h3 h4 h5 h6 h7 (by omega),
    hm b0 _ h0, hm b1 _ h1, hm b2 _ h2, hm b3 _ h3, hm b4 _ h4, hm b5 _ h5, hm b6 _ h6, hm b7 _ h7]
  unfold by8 s1; omega
theorem y2_by8 {b0 b1 b2 b3 b4 b5 b6 b7 : Nat} (h0 : b0 < 256) (h1 : b1 < 256) (h2 : b2 < 256) (h3 : b3 < 256) (h4 : b4 < 256) (h5 : b5 < 256) (h6 : b6 < 256) (h7 : b7 < 256) :
    y2 (by8 b0 b1 b2 b3 b4 b5 b6 b7) = by8 (s2 b0) (s2 b1) (s2 b2) (s2 b3) (s2 b4) (s2 b5) (s2 b6) (s2 b7) := by
  unfold y2
  have e : by8 b0 b1 b2 b3 b4 b5 b6 b7 / 4 = by8 (b0 / 4 + 64 * (b1 % 4)) (b1 / 4 + 64 * (b2 % 4)) (b2 / 4 + 64 * (b3 % 4)) (b3 / 4 + 64 * (b4 % 4)) (b4 / 4 + 64 * (b5 % 4)) (b5 / 4 + 64 * (b6 % 4)) (b6 / 4 + 64 * (b7 % 4)) (b7 / 4 + 64 * (0 % 4)) := by
    unfold by8; omega
  rw [e, show 0x3333333333333333 = by8 0x33 0x33 0x33 0x33 0x33 0x33 0x33 0x33 from rfl, by8_and (by omega) (by omega) (by omega) (by omega) (by omega) (by omega) (by omega) (by omega) (by omega), by8_and h0 h1 h2 h3 h4 h5 h6 h7 (by omega),
    qm b0 _ h0, qm b1 _ h1, qm b2 _ h2, qm b3 _ h3, qm b4 _ h4, qm b5 _ h5, qm b6 _ h6, qm b7 _ h7]
  unfold by8 s2; omega
def sm (b : Nat) : Prop := b / 16 ≤ 4 ∧ b % 16 ≤ 4
theorem add_mod16 (b c : Nat) : (b / 16 + 16 * (c % 16) + b) % 16 = s3 b := by unfold s3; omega
theorem y3_by8 {b0 b1 b2 b3 b4 b5 b6 b7 : Nat} (h0 : sm b0) (h1 : sm b1) (h2 : sm b2) (h3 : sm b3) (h4 : sm b4) (h5 : sm b5) (h6 : sm b6) (h7 : sm b7) :
    y3 (by8 b0 b1 b2 b3 b4 b5 b6 b7) = by8 (s3 b0) (s3 b1) (s3 b2) (s3 b3) (s3 b4) (s3 b5) (s3 b6) (s3 b7) := by
  unfold y3
  unfold sm at h0 h1 h2 h3 h4 h5 h6 h7
  have e : by8 b0 b1 b2 b3 b4 b5 b6 b7 / 16 + by8 b0 b1 b2 b3 b4 b5 b6 b7 = by8 (b0 / 16 + 16 * (b1 % 16) + b0) (b1 / 16 + 16 * (b2 % 16) + b1) (b2 / 16 + 16 * (b3 % 16) + b2) (b3 / 16 + 16 * (b4 % 16) + b3) (b4 / 16 + 16 * (b5 % 16) + b4) (b5 / 16 + 16 * (b6 % 16) + b5) (b6 / 16 + 16 * (b7 % 16) + b6) (b7 / 16 + 16 * (0 % 16) + b7) := by
    unfold by8; omega
  rw [e, show 0x0f0f0f0f0f0f0f0f = by8 0x0f 0x0f 0x0f 0x0f 0x0f 0x0f 0x0f 0x0f from rfl, by8_and (by omega) (by omega) (by omega) (by omega) (by omega) (by omega) (by omega) (by omega) (by omega)]
  rw [lm _ (by omega), lm _ (by omega), lm _ (by omega), lm _ (by omega), lm _ (by omega), lm _ (by omega), lm _ (by omega), lm _ (by omega)]
  simp only [add_mod16]
theorem y6_by8 {b0 b1 b2 b3 b4 b5 b6 b7 : Nat} (h0 : b0 ≤ 8) (h1 : b1 ≤ 8) (h2 : b2 ≤ 8) (h3 : b3 ≤ 8) (h4 : b4 ≤ 8) (h5 : b5 ≤ 8) (h6 : b6 ≤ 8) (h7 : b7 ≤ 8) :
    y6 (y5 (y4 (by8 b0 b1 b2 b3 b4 b5 b6 b7))) % 128 = b0 + b1 + b2 + b3 + b4 + b5 + b6 + b7 ∧ y6 (y5 (y4 (by8 b0 b1 b2 b3 b4 b5 b6 b7))) < 2 ^ 63 := by
  have e : y4 (by8 b0 b1 b2 b3 b4 b5 b6 b7) = by8 (b0 + b1) (b1 + b2) (b2 + b3) (b3 + b4) (b4 + b5) (b5 + b6) (b6 + b7) b7 := by unfold y4 by8; omega
  have e' : y5 (by8 (b0 + b1) (b1 + b2) (b2 + b3) (b3 + b4) (b4 + b5) (b5 + b6) (b6 + b7) b7) = by8 (b0 + b1 + (b2 + b3)) (b1 + b2 + (b3 + b4)) (b2 + b3 + (b4 + b5)) (b3 + b4 + (b5 + b6)) (b4 + b5 + (b6 + b7)) (b5 + b6 + b7) (b6 + b7) b7 := by unfold y5 by8; omega
  have e'' : y6 (by8 (b0 + b1 + (b2 + b3)) (b1 + b2 + (b3 + b4)) (b2 + b3 + (b4 + b5)) (b3 + b4 + (b5 + b6)) (b4 + b5 + (b6 + b7)) (b5 + b6 + b7) (b6 + b7) b7) = by8 (b0 + b1 + (b2 + b3) + (b4 + b5 + (b6 + b7))) (b1 + b2 + (b3 + b4) + (b5 + b6 + b7)) (b2 + b3 + (b4 + b5) + (b6 + b7)) (b3 + b4 + (b5 + b6) + b7) (b4 + b5 + (b6 + b7)) (b5 + b6 + b7) (b6 + b7) b7 := by unfold y6 by8; omega
  rw [e, e', e'']
  unfold by8; omega
theorem pc_by8 {b0 b1 b2 b3 b4 b5 b6 b7 : Nat} (h0 : b0 < 256) (h1 : b1 < 256) (h2 : b2 < 256) (h3 : b3 < 256) (h4 : b4 < 256) (h5 : b5 < 256) (h6 : b6 < 256) (h7 : b7 < 256) :
    pcN 64 (by8 b0 b1 b2 b3 b4 b5 b6 b7) = pcN 8 b0 + pcN 8 b1 + pcN 8 b2 + pcN 8 b3 + pcN 8 b4 + pcN 8 b5 + pcN 8 b6 + pcN 8 b7 := by
  have k : ∀ n a b, b < 256 → pcN (8 + n) (256 * a + b) = pcN 8 b + pcN n a := by
    intro n a b h
    rw [pcN_add, ← pcN_mod 8 (256 * a + b)]
    congr 2 <;> omega
  unfold by8
  rw [show 64 = 8 + 56 from rfl, k _ _ _ h0, show 56 = 8 + 48 from rfl, k _ _ _ h1, show 48 = 8 + 40 from rfl, k _ _ _ h2, show 40 = 8 + 32 from rfl, k _ _ _ h3, show 32 = 8 + 24 from rfl, k _ _ _ h4, show 24 = 8 + 16 from rfl, k _ _ _ h5, show 16 = 8 + 8 from rfl, k _ _ _ h6]
  omega
theorem pop_all (x : Nat) (h : x < 2 ^ 64) : y6 (y5 (y4 (y3 (y2 (y1 x))))) % 128 = pcN 64 x ∧ y6 (y5 (y4 (y3 (y2 (y1 x))))) < 2 ^ 63 := by
  obtain ⟨b0, b1, b2, b3, b4, b5, b6, b7, rfl, h0, h1, h2, h3, h4, h5, h6, h7⟩ := by8_of x h
  have l : ∀ b, b < 256 → s1 b < 256 := fun b h => by have := s1_le ⟨b, h⟩; simp only at this; omega
  have m : ∀ b, b < 256 → sm (s2 (s1 b)) := fun b h => s2_le ⟨b, h⟩
  have n : ∀ b, b < 256 → s3 (s2 (s1 b)) = pcN 8 b := fun b h => s3_eq ⟨b, h⟩
  have p : ∀ b, b < 256 → pcN 8 b ≤ 8 := fun b h => pc8_le ⟨b, h⟩
  rw [y1_by8 h0 h1 h2 h3 h4 h5 h6 h7, y2_by8 (l _ h0) (l _ h1) (l _ h2) (l _ h3) (l _ h4) (l _ h5) (l _ h6) (l _ h7),
    y3_by8 (m _ h0) (m _ h1) (m _ h2) (m _ h3) (m _ h4) (m _ h5) (m _ h6) (m _ h7), n _ h0, n _ h1, n _ h2, n _ h3, n _ h4, n _ h5, n _ h6, n _ h7, pc_by8 h0 h1 h2 h3 h4 h5 h6 h7]
  exact y6_by8 (p _ h0) (p _ h1) (p _ h2) (p _ h3) (p _ h4) (p _ h5) (p _ h6) (p _ h7)
abbrev B64 := BitVec 64
def topB : B64 := BitVec.twoPow 64 63
def fldB (n : Int) : Bool := decide (2 ≤ n) && decide (n ≤ 128) && !(n == 65)
def oF (n : Int) : B64 := if n ≤ 64 then BitVec.twoPow 64 (64 - n).toNat else 0#64
def oS (n : Int) : B64 := if n ≤ 64 then 0#64 else BitVec.twoPow 64 (128 - n).toNat
def hasB (F S : B64) (n : Int) : Bool := fldB n && (if n ≤ 64 then F.getLsbD (64 - n).toNat else S.getLsbD (128 - n).toNat)
def rightB (F S : B64) : Bool := !(F.getLsbD 63 || S.getLsbD 63)
def pl (X : B64) : B64 := X &&& ~~~topB
def lenV (F S : B64) : Nat := pcN 64 (pl F).toNat + pcN 64 (pl S).toNat
theorem fld_cases {n : Int} (h : fldB n = true) : (2 ≤ n ∧ n ≤ 64) ∨ (66 ≤ n ∧ n ≤ 128) := by
  unfold fldB at h
  simp only [Bool.and_eq_true, decide_eq_true_eq, Bool.not_eq_true', beq_eq_false_iff_ne] at h
  omega
theorem pl_get (X : B64) (k : Nat) : (pl X).getLsbD k = (X.getLsbD k && !(k == 63)) := by
  unfold pl topB
  rw [BitVec.getLsbD_and, BitVec.getLsbD_not, BitVec.getLsbD_twoPow]
  by_cases h : k < 64
  · by_cases e : k = 63
    · subst e; simp
    · have e' : ¬ 63 = k := fun x => e x.symm
      simp [h, e, e']
  · simp [h, BitVec.getLsbD_of_ge X k (by omega)]
theorem has_and (F S F' S' : B64) (n : Int) : hasB (pl (F &&& F')) (pl (S &&& S')) n = (hasB F S n && hasB F' S' n) := by
  unfold hasB
  cases h : fldB n
  · simp
  rcases fld_cases h with ⟨h1, h2⟩ | ⟨h1, h2⟩
  · simp only [if_pos h2, pl_get, BitVec.getLsbD_and, Bool.true_and]
    rw [show ((64 - n).toNat == 63) = false by rw [beq_eq_false_iff_ne]; omega]; simp
  · simp only [if_neg (show ¬ n ≤ 64 by omega), pl_get, BitVec.getLsbD_and, Bool.true_and]
    rw [show ((128 - n).toNat == 63) = false by rw [beq_eq_false_iff_ne]; omega]; simp
theorem has_less (F S F' S' : B64) (n : Int) : hasB (pl (F &&& ~~~F')) (pl (S &&& ~~~S')) n = (hasB F S n && !hasB F' S' n) := by
  unfold hasB
  cases h : fldB n
  · simp
  rcases fld_cases h with ⟨h1, h2⟩ | ⟨h1, h2⟩
  · simp only [if_pos h2, pl_get, BitVec.getLsbD_and, BitVec.getLsbD_not, Bool.true_and]
    rw [show ((64 - n).toNat == 63) = false by rw [beq_eq_false_iff_ne]; omega, show decide ((64 - n).toNat < 64) = true by rw [decide_eq_true_eq]; omega]; simp
  · simp only [if_neg (show ¬ n ≤ 64 by omega), pl_get, BitVec.getLsbD_and, BitVec.getLsbD_not, Bool.true_and]
    rw [show ((128 - n).toNat == 63) = false by rw [beq_eq_false_iff_ne]; omega, show decide ((128 - n).toNat < 64) = true by rw [decide_eq_true_eq]; omega]; simp
theorem right_pl (X Y : B64) : rightB (pl X) (pl Y) = true := by unfold rightB; rw [pl_get, pl_get]; simp
/-- set, struck and set again -/
theorem tw (A : B64) (k : Nat) (hk : k < 64) :
    ((A ||| BitVec.twoPow 64 k) &&& ~~~(BitVec.twoPow 64 k)) ||| BitVec.twoPow 64 k = A ||| BitVec.twoPow 64 k ∧ (A ||| BitVec.twoPow 64 k).getLsbD k = true ∧ ((A ||| BitVec.twoPow 64 k) &&& ~~~(BitVec.twoPow 64 k)).getLsbD k = false ∧
    (((A ||| BitVec.twoPow 64 k) &&& ~~~(BitVec.twoPow 64 k)) = A ↔ A.getLsbD k = false) := by
  refine ⟨?_, ?_, ?_, ?_⟩
  · apply BitVec.eq_of_getLsbD_eq
    intro i hi
    simp only [BitVec.getLsbD_or, BitVec.getLsbD_and, BitVec.getLsbD_not, BitVec.getLsbD_twoPow]
    cases A.getLsbD i <;> by_cases e : k = i <;> simp [hi, e]
  · simp [BitVec.getLsbD_or, BitVec.getLsbD_twoPow, hk]
  · simp [BitVec.getLsbD_or, BitVec.getLsbD_twoPow, hk]
  · constructor
    · intro h
      rw [← h]
      simp [BitVec.getLsbD_or, BitVec.getLsbD_twoPow, hk]
    · intro h
      apply BitVec.eq_of_getLsbD_eq
      intro i hi
      simp only [BitVec.getLsbD_or, BitVec.getLsbD_and, BitVec.getLsbD_not, BitVec.getLsbD_twoPow]
      by_cases e : k = i
      · subst e; simp [h]
      · simp [hi, e]
theorem pcN_split : ∀ (n a b x : Nat), (∀ k, k < n → (a.testBit k).toNat + (b.testBit k).toNat = (x.testBit k).toNat) → pcN n a + pcN n b = pcN n x
  | 0, a, b, x, _ => rfl
  | n + 1, a, b, x, h => by
    have i := pcN_split n (a / 2) (b / 2) (x / 2) (fun k hk => by
      have := h (k + 1) (by omega)
      rwa [Nat.testBit_succ, Nat.testBit_succ, Nat.testBit_succ] at this)
    have z := h 0 (by omega)
    simp only [Nat.testBit_zero] at z
    have t : ∀ y : Nat, (decide (y % 2 = 1)).toNat = y % 2 := by
      intro y; rcases Nat.mod_two_eq_zero_or_one y with e | e <;> rw [e] <;> rfl
    rw [t, t, t] at z
    simp only [pcN]
    omega
theorem len_split (F F' : B64) : pcN 64 (pl (pl (F &&& F'))).toNat + pcN 64 (pl (pl (F &&& ~~~F'))).toNat = pcN 64 (pl F).toNat := by
  apply pcN_split
  intro k hk
  simp only [BitVec.testBit_toNat, pl_get, BitVec.getLsbD_and, BitVec.getLsbD_not, hk, decide_true, Bool.true_and]
  cases F.getLsbD k <;> cases F'.getLsbD k <;> cases (k == 63) <;> rfl
end Go.Proofs.Ytieloocmkgficaa
