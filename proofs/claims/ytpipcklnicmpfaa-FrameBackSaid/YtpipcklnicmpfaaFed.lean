/-
  A stream that is fed in pieces: the law's fed, by its contract.
-/
import Derived.Test.YtpipcklnicmpfaaEx
namespace Go.Proofs.Ytpipcklnicmpfaa
open Go.RowKit
set_option linter.unusedVariables false
set_option linter.unusedSimpArgs false
theorem cut_total (h m : Int) : ∀ (k : Nat) (a : Bys), a.length ≤ k → (cut h m a).ms.length + (cut h m a).idle + (cut h m a).rest.length ≤ a.length
  | k, a, hk => by
    have hp := hsz_pos h
    by_cases h1 : a.length < hsz h
    · rw [cut_short h1]; simp
    · by_cases h2 : (toldI h (a.take (hsz h))).2 = false
      · rw [cut_bad h1 h2]; simp
      · have h2' : (toldI h (a.take (hsz h))).2 = true := by simpa using h2
        by_cases h3 : m < (toldI h (a.take (hsz h))).1
        · rw [cut_long h1 h2' h3]; simp
        · by_cases h4 : a.length < hsz h + (toldI h (a.take (hsz h))).1.toNat
          · rw [cut_wait h1 h2' h3 h4]; simp
          · have hlt : (a.drop (hsz h + (toldI h (a.take (hsz h))).1.toNat)).length + 1 ≤ a.length := by rw [List.length_drop]; omega
            match k, hk with
            | 0, hk => exact absurd hk (by omega)
            | k + 1, hk =>
              have i1 := cut_total h m k (a.drop (hsz h + (toldI h (a.take (hsz h))).1.toNat)) (by omega)
              by_cases h5 : (toldI h (a.take (hsz h))).1 = 0
              · rw [cut_idle h1 h2' h3 h4 h5]
                simp only [Cut.after, List.nil_append]; omega
              · rw [cut_msg h1 h2' h3 h4 h5]
                simp only [Cut.after, List.length_append, List.length_singleton]; omega
theorem feed_split (h m : Int) (st : St) (a b : Bys) : feedS h m st (a ++ b) = feedS h m (feedS h m st a) b ∧ feedM h m st (a ++ b) = feedM h m st a ++ feedM h m (feedS h m st a) b := by
  by_cases hb : st.bad = 0
  · have e : st.waits ++ (a ++ b) = (st.waits ++ a) ++ b := by rw [List.append_assoc]
    unfold feedS feedM
    rw [if_pos hb, if_pos hb, if_pos hb, if_pos hb, e]
    by_cases he : (cut h m (st.waits ++ a)).err = 0
    · rw [if_pos he, if_pos he, cut_two h m _ _ he]
      exact ⟨by simp [Cut.after, Nat.add_assoc], rfl⟩
    · rw [if_neg he, if_neg he, cut_err h m _ _ he]
      exact ⟨rfl, by simp⟩
  · unfold feedS feedM
    rw [if_neg hb, if_neg hb, if_neg hb, if_neg hb]
    simp [hb]
theorem feed_sizes (h m : Int) (st : St) (a : Bys) : (feedM h m st a).length + (feedS h m st a).idle + (feedS h m st a).waits.length ≤ st.idle + st.waits.length + a.length ∧ (feedM h m st a).length + (feedS h m st a).waits.length ≤ st.waits.length + a.length := by
  unfold feedM feedS
  by_cases hb : st.bad = 0
  · rw [if_pos hb, if_pos hb]
    have := cut_total h m _ (st.waits ++ a) (Nat.le_refl _)
    rw [List.length_append] at this
    simp only
    omega
  · rw [if_neg hb, if_neg hb]
    exact ⟨by simp only [List.length_nil]; omega, by simp only [List.length_nil]; omega⟩
theorem size_list (s : ByteArray) : s.data.toList.length = s.size := Array.length_toList
theorem bytes_below (W : World) (e : TypeId) (s : ByteArray) : Below W.heap.size W (Lib.bytesWorld W e s) :=
  ⟨rfl, rfl, rfl, by rw [Lib.bytesWorld_size]; omega, fun k hk => Lib.bytesWorld_at_old W e s k hk⟩
theorem bytes_reads (W : World) (s : ByteArray) : Reads (Lib.bytesWorld W 5 s) (Lib.bytesWorld W 5 s).heap.size 1 (some ⟨W.heap.size, 0, none⟩) s.size (bcells s.data.toList) :=
  ⟨by rw [bcells_len, size_list, Nat.mul_one], fun _ => ⟨_, rfl, by rw [Lib.bytesWorld_size]; simp, fun j u hu => by
    have hj : j < s.size := by
      rcases Nat.lt_or_ge j s.size with h | h
      · exact h
      · rw [List.getElem?_eq_none (by rw [bcells_len, size_list]; exact h)] at hu; cases hu
    rw [Addr.add_lit, Nat.zero_add, Lib.bytesWorld_cell W 5 s j hj]
    rw [← hu]
    unfold bcells
    rw [List.getElem?_map, List.getElem?_eq_getElem (by rw [size_list]; exact hj), List.getD, List.getElem?_eq_getElem (by rw [size_list]; exact hj)]
    rfl⟩⟩
theorem feed_any {B : Nat} {w : World} {g : Nat} {v : Value} {h m : Int} {s : St} (hs : Strm B w g v h m s) (h1 : 1 ≤ h) (h4 : h ≤ 4) (m1 : 1 ≤ m) (hm : m ≤ 9999) (A : Option Addr) (n c : Nat) (b : Bys) (hn : b.length = n)
    (hr : Reads w w.heap.size 1 A n (bcells b)) (hz : s.waits.length + n ≤ 1000000000) (hi : s.idle ≤ 100000000000) :
    Calls Try.prog 26 #[.pointer (some ⟨g, 0, none⟩), .slice A n c] w (Fed w g B v h m s b) := by
  by_cases hb : s.bad = 0
  · exact feed_good hs hb h1 h4 m1 hm A n c b hn hr hz hi
  · exact feed_bad hs hb b _
/-- In the midst of a stream that is fed in pieces. -/
structure FS (w W : World) (g B : Nat) (r : Option Nat) (h m : Int) (st0 : St) (s0 : Bys) (ms : List Bys) (out v : Value) (st : St) (t : Bys) : Prop where
  own : W.ownsRow w.heap.size 9 1 out ms.length (strs ms)
  strm : Strm B W g v h m st
  hv : v.ownBlock = r ∨ ∀ j, v.ownBlock = some j → w.heap.size ≤ j
  fr : Fr w W g r
  hg : g < w.heap.size
  hS : feedS h m st0 s0 = feedS h m st t
  hM : feedM h m st0 s0 = ms ++ feedM h m st t
  hi : ms.length + st.idle + st.waits.length + t.length ≤ st0.idle + st0.waits.length + s0.length
  hms : ms.length + st.waits.length + t.length ≤ st0.waits.length + s0.length
section
variable {w W W' W'' : World} {g B : Nat} {r : Option Nat} {h m : Int} {st0 : St} {s0 : Bys} {ms : List Bys} {out v : Value} {st : St} {t : Bys}
theorem FS.below (f : FS w W g B r h m st0 s0 ms out v st t) (hb : Below W.heap.size W W') : FS w W' g B r h m st0 s0 ms out v st t :=
  ⟨own_below f.own hb, f.strm.below hb, f.hv, f.fr.trans (Fr.of_below (r := none) hb) (.inr (by simp)), f.hg, f.hS, f.hM, f.hi, f.hms⟩
theorem FS.start (hs : Strm B w g v h m st) (t : Bys) : FS w w g B v.ownBlock h m st t [] (.slice none 0 0) v st t :=
  ⟨World.ownsRow_nil _ _ _ _, hs, .inl rfl, Fr.refl _ _ _, hs.1.lt, rfl, rfl, by simp, by simp⟩
/-- Behind a Feed what was told lies as it lay. -/
theorem FS.kept (f : FS w W g B r h m st0 s0 ms out v st t) {ms2 : List Bys} {e : Int} {st2 : St} {out2 v2 : Value} (hF : Fin_ W W' g B v.ownBlock h m ms2 e st2 out2 v2) : W'.ownsRow w.heap.size 9 1 out ms.length (strs ms) :=
  hF.fr.row f.own (own_ge f.own f.hg) (own_apart f.own f.strm.2.1 (by decide))
theorem FS.fed (f : FS w W g B r h m st0 s0 ms out v st t) {a b : Bys} (ht : t = a ++ b) {e : Int} {out2 v2 out' : Value} (hF : Fin_ W W' g B v.ownBlock h m (feedM h m st a) e (feedS h m st a) out2 v2)
    (hg : W'.grownBy W'' out.ownBlock) (ho : W''.ownsRow w.heap.size 9 1 out' (ms.length + (feedM h m st a).length) (strs ms ++ strs (feedM h m st a))) :
    FS w W'' g B r h m st0 s0 (ms ++ feedM h m st a) out' v2 (feedS h m st a) b := by
  have hsz := f.fr.size
  have hne := own_ge f.own f.hg
  have hF2 : Fr W' W'' g out.ownBlock := Fr.of_grown hg (.inl rfl)
  have h1 : Fr w W' g r := f.fr.trans hF.fr f.hv
  obtain ⟨q1, q2⟩ := feed_sizes h m st a
  obtain ⟨p1, p2⟩ := feed_split h m st a b
  have k1 := f.hi
  have k2 := f.hms
  have hl : t.length = a.length + b.length := by rw [ht, List.length_append]
  refine ⟨?_, ⟨hF.strm.1.grown hg (fun e => hne e.symm), hF2.row hF.strm.2.1 hF.strm.2.2.1 (own_apart hF.strm.2.1 (f.kept hF) (by decide)), hF.strm.2.2.1, hF.strm.2.2.2⟩, ?_, h1.trans hF2 (.inr (fun j e => (f.own.lt j e).1)), f.hg, ?_, ?_, ?_, ?_⟩
  · rw [List.length_append]
    have e : strs (ms ++ feedM h m st a) = strs ms ++ strs (feedM h m st a) := by simp [strs]
    rw [e]; exact ho
  · rcases hF.hv with e | e
    · rw [e]; exact f.hv
    · exact .inr (fun j hj => Nat.le_trans hsz (e j hj))
  · rw [f.hS, ht, p1]
  · rw [f.hM, ht, p2, List.append_assoc]
  · rw [List.length_append]; omega
  · rw [List.length_append]; omega
end
theorem strs_len (ms : List Bys) : (strs ms).length = ms.length := by simp [strs]
theorem strs_one (ms : List Bys) : ∀ u ∈ strs ms, u.oneCell' = true := by
  intro u hu
  unfold strs at hu
  rw [List.mem_map] at hu
  obtain ⟨x, _, rfl⟩ := hu
  rfl
theorem ext_take (t : Bys) (k : Nat) : (bstr t).extract 0 k = bstr (t.take k) := by
  apply ByteArray.ext
  rw [ByteArray.data_extract]
  simp [bstr]
theorem ext_drop (t : Bys) (k : Nat) : (bstr t).extract k t.length = bstr (t.drop k) := by
  apply ByteArray.ext
  rw [ByteArray.data_extract]
  simp [bstr, List.take_of_length_le]
/-- Numbers that lie somewhere below. -/
def Ints (w : World) (B : Nat) (A : Option Addr) (ys : List Int) : Prop :=
  ∀ k, k < ys.length → ∃ b off, A = some ⟨b, off, none⟩ ∧ b < B ∧ w.cell? ⟨b, off + k, none⟩ = some (.int .i64 (ys.getD k 0)) ∧ -9223372036854775808 ≤ ys.getD k 0 ∧ ys.getD k 0 ≤ 9223372036854775807
end Go.Proofs.Ytpipcklnicmpfaa
