/-
  What is written and read, in plain Lean: bytes and sixteenths of a half, Encode, Decode.
-/
import Derived.Test.YtieloocmkgficaaWords
namespace Go.Proofs.Ytieloocmkgficaa
open Go.RowKit
set_option linter.unusedVariables false
set_option linter.unusedSimpArgs false
def formV (enc : Int) : Int := if enc = 5 then 1 else if enc = 1 then 2 else if enc = 4 then 3 else 0
def sgn (f n : Int) : Int := if f = 3 then (if n < 10 then 240 + n else 183 + n) else (if n < 10 then 48 + n else 55 + n)
/-- The eight bytes of a half. -/
def bys (x : Int) : List Int := [x / 72057594037927936 % 256, x / 281474976710656 % 256, x / 1099511627776 % 256, x / 4294967296 % 256, x / 16777216 % 256, x / 65536 % 256, x / 256 % 256, x % 256]
def chs (f : Int) : List Int → List Int
  | [] => []
  | b :: l => sgn f (b / 16) :: sgn f (b % 16) :: chs f l
def numsOf (f x : Int) : List Int := if f = 1 then bys x else chs f (bys x)
def writtenV (f x : Int) : ByteArray := strOfNums (numsOf f x)
theorem numsOf_len (f x : Int) : (numsOf f x).length = if f = 1 then 8 else 16 := by
  unfold numsOf; split <;> rfl
theorem sgn_rng (f n : Int) (h0 : 0 ≤ n) (h1 : n < 16) : 0 ≤ sgn f n ∧ sgn f n ≤ 255 := by
  unfold sgn; split <;> split <;> omega
theorem chs_rng (f : Int) : ∀ l : List Int, (∀ b ∈ l, 0 ≤ b ∧ b < 256) → ∀ c ∈ chs f l, 0 ≤ c ∧ c ≤ 255
  | [], _, c, hc => by cases hc
  | b :: l, h, c, hc => by
    have hb := h b (List.mem_cons_self ..)
    simp only [chs, List.mem_cons] at hc
    rcases hc with rfl | rfl | hc
    · exact sgn_rng f _ (by omega) (by omega)
    · exact sgn_rng f _ (by omega) (by omega)
    · exact chs_rng f l (fun b hb => h b (List.mem_cons_of_mem _ hb)) c hc
theorem bys_rng (x : Int) : ∀ b ∈ bys x, 0 ≤ b ∧ b < 256 := by
  intro b hb
  unfold bys at hb
  simp only [List.mem_cons, List.not_mem_nil, or_false] at hb
  rcases hb with rfl | rfl | rfl | rfl | rfl | rfl | rfl | rfl <;> omega
theorem nums_rng (f x : Int) : ∀ c ∈ numsOf f x, 0 ≤ c ∧ c ≤ 255 := by
  intro c hc
  unfold numsOf at hc
  split at hc
  · have := bys_rng x c hc; omega
  · exact chs_rng f _ (bys_rng x) c hc

def encodeV (enc F S : Int) : ByteArray × Int :=
  if formV enc = 0 ∨ 9223372036854775808 ≤ F ∨ 9223372036854775808 ≤ S then (ByteArray.empty, 1)
  else if S = 0 then (writtenV (formV enc) F, 0)
  else (writtenV (formV enc) (F + 9223372036854775808) ++ writtenV (formV enc) S, 0)

/-- What a character says: its sixteenth; -1: it is none. -/
def worV (f b : Int) : Int :=
  if f = 3 then (if 240 ≤ b ∧ b ≤ 249 then b - 240 else if 193 ≤ b ∧ b ≤ 198 then b - 183 else -1)
  else (if 48 ≤ b ∧ b ≤ 57 then b - 48 else if 65 ≤ b ∧ b ≤ 70 then b - 55 else -1)
def byt (b : ByteArray) (i : Nat) : Int := if h : i < b.size then ((b[i]'h).toNat : Int) else 0
theorem byt_get (b : ByteArray) (i : Nat) (h : i < b.size) : ((b[i]'h).toNat : Int) = byt b i := by unfold byt; rw [dif_pos h]
def valV (f c : Int) : Int := if f = 1 then c else worV f c
def baseV (f : Int) : Int := if f = 1 then 256 else 16
def manyV (f : Int) : Nat := if f = 1 then 8 else 16
def rd (f : Int) (b : ByteArray) : Nat → Int → Nat → Int × Int × Nat
  | 0, x, at_ => (x, 0, at_)
  | n + 1, x, at_ => if at_ = b.size then (0, 10, at_) else if valV f (byt b at_) < 0 then (0, 11, at_) else rd f b n (x * baseV f + valV f (byt b at_)) (at_ + 1)
def readV (f : Int) (b : ByteArray) (at_ : Nat) : Int × Int × Nat := rd f b (manyV f) 0 at_
def decodeV (enc : Int) (b : ByteArray) : Int × Int × Int × Nat :=
  if formV enc = 0 then (0, 0, 1, 0)
  else
    let r := readV (formV enc) b 0
    if r.2.1 ≠ 0 then (0, 0, r.2.1, r.2.2)
    else if r.1 < 9223372036854775808 then (r.1, 0, 0, r.2.2)
    else
      let s := readV (formV enc) b r.2.2
      if s.2.1 ≠ 0 then (0, 0, s.2.1, s.2.2)
      else if 9223372036854775808 ≤ s.1 ∨ s.1 = 0 then (0, 0, 20, r.2.2)
      else (r.1 - 9223372036854775808, s.1, 0, s.2.2)
theorem wor_rng (f b : Int) : -1 ≤ worV f b ∧ worV f b < 16 := by
  unfold worV; split <;> split <;> (try split) <;> omega
theorem wor_sgn (f b : Int) (h : 0 ≤ worV f b) : sgn f (worV f b) = b := by
  unfold worV at h ⊢; unfold sgn
  repeat' split
  all_goals (first | omega | (repeat' split at h) <;> omega)
theorem sgn_wor (f n : Int) (h0 : 0 ≤ n) (h1 : n < 16) : worV f (sgn f n) = n := by
  unfold worV sgn
  repeat' split
  all_goals omega
end Go.Proofs.Ytieloocmkgficaa
