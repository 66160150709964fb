/-
  BitmapOf: the walk.
-/
import Derived.Test.YtieloocmkgficaaOfB
namespace Go.Proofs.Ytieloocmkgficaa
open Go.RowKit
set_option linter.unusedVariables false
set_option linter.unusedSimpArgs false
theorem of_at (g n c : Nat) (l ys : List Int) (hn : ys.length = n) (hb : n ≤ 1048576) (w : World) (hX : Blk w g 3 (intA l)) (hl : n ≤ l.length) (he : ∀ k, k < n → l.getD k 0 = ys.getD k 0) :
    Calls Try.prog 21 #[.slice (some ⟨g, 0, none⟩) n c] w fun e w' => e = .returned (.tuple #[.agg #[.int .u64 (iv (ofGo ys 0#64 0#64).1), .int .u64 (iv (ofGo ys 0#64 0#64).2.1)], .int .i64 (ofGo ys 0#64 0#64).2.2]) ∧ Below w.heap.size w w' := by
  subst hn
  exact of_some g 0 c ys w (by omega) hX.lt (fun i hi => by rw [Nat.zero_add, hX.cell i, intA_get l i (by omega), he i hi])
theorem rep_get (n k : Nat) (h : k < n) : (List.replicate n (3 : Int)).getD k 0 = 3 := by
  rw [List.getD, List.getElem?_replicate, if_pos h]; rfl
theorem lent_get (ys : List Int) (n k : Nat) (hn : ys.length = n) (h : k < n) : (lentK ys (n + 8)).getD k 0 = ys.getD k 0 := by
  rw [lentK_get ys _ _ (by omega), if_pos (by omega), if_pos (by omega)]
/-- What lies in the world that has come of w. -/
def Bs (w W : World) (L : List (Nat × TypeId × Array Value)) : Prop := Below w.heap.size w W ∧ (∀ x, x ∈ L → Blk W x.1 x.2.1 x.2.2) ∧ (∀ x, x ∈ L → w.heap.size ≤ x.1)
theorem Bs.call {w W W' : World} {L : List (Nat × TypeId × Array Value)} (h : Bs w W L) (hb : Below W.heap.size W W') : Bs w W' L :=
  ⟨h.1.trans (hb.mono h.1.size), fun x hx => (h.2.1 x hx).below hb (h.2.1 x hx).lt, h.2.2⟩
theorem Bs.new {w W : World} {L : List (Nat × TypeId × Array Value)} (h : Bs w W L) (t : TypeId) (cs : Array Value) : Bs w (W.alloc (.cells cs t)) ((W.heap.size, t, cs) :: L) :=
  ⟨h.1.alloc h.1.size _, fun x hx => by
    rcases List.mem_cons.1 hx with rfl | hx
    · exact Blk.new W t cs
    · exact (h.2.1 x hx).alloc _, fun x hx => by
    rcases List.mem_cons.1 hx with rfl | hx
    · exact h.1.size
    · exact h.2.2 x hx⟩
theorem Bs.only {w W W' : World} {L : List (Nat × TypeId × Array Value)} {g : Nat} {t : TypeId} {c c' : Array Value} (h : Bs w W (L ++ [(g, t, c)])) (hG : W.grownBy W' (some g)) (hX : Blk W' g t c') (hne : ∀ x, x ∈ L → x.1 ≠ g) : Bs w W' (L ++ [(g, t, c')]) :=
  ⟨below_only h.1 h.1.size hG (h.2.2 (g, t, c) (by simp)), fun x hx => by
    rcases List.mem_append.1 hx with hx | hx
    · exact (h.2.1 x (List.mem_append_left _ hx)).grown hG (fun e => hne x hx (by injection e))
    · rw [List.mem_singleton] at hx; subst hx; exact hX, fun x hx => by
    rcases List.mem_append.1 hx with hx | hx
    · exact h.2.2 x (List.mem_append_left _ hx)
    · rw [List.mem_singleton] at hx; subst hx; exact h.2.2 (g, t, c) (by simp)⟩
theorem Bs.row {w W : World} {L : List (Nat × TypeId × Array Value)} {g : Nat} {q r : List Bool} (h : Bs w W ((g, 40, rowA q) :: L)) (hne : ∀ x, x ∈ L → x.1 ≠ g) : Bs w (W.setRow g (rowA r)) ((g, 40, rowA r) :: L) :=
  ⟨below_setRow h.1 (h.2.2 (g, 40, rowA q) (by simp)), fun x hx => by
    rcases List.mem_cons.1 hx with rfl | hx
    · exact Blk.setRow (h.2.1 (g, 40, rowA q) (by simp))
    · exact (h.2.1 x (by simp [hx])).setRow_far (fun e => hne x hx e.symm), fun x hx => by
    rcases List.mem_cons.1 hx with rfl | hx
    · exact h.2.2 (g, 40, rowA q) (by simp)
    · exact h.2.2 x (by simp [hx])⟩
theorem Bs.at_ {w W : World} {L : List (Nat × TypeId × Array Value)} {g : Nat} {t : TypeId} {c : Array Value} (h : Bs w W L) (hx : (g, t, c) ∈ L) : Blk W g t c := h.2.1 _ hx
theorem Bs.hd {w W : World} {L : List (Nat × TypeId × Array Value)} {g : Nat} {t : TypeId} {c : Array Value} (h : Bs w W ((g, t, c) :: L)) : Blk W g t c := h.2.1 _ (List.mem_cons_self ..)
set_option maxRecDepth 100000 in
set_option maxHeartbeats 4000000 in
theorem of_run (A : Option Addr) (n cap : Nat) (ys : List Int) (F S F3 S3 : B64) (e e3 : Int) (r r3 : List Bool) (hn : ys.length = n) (hb : n ≤ 1048576) (w : World) (hI : InL w A ys) (hr : r.length = 129) (hr3 : r3.length = 129)
    (h1 : ofGo ys 0#64 0#64 = (F, S, e)) (h2 : ofRow ys zeros = (r, e)) (h3 : ofGo (List.replicate n 3) 0#64 0#64 = (F3, S3, e3)) (h4 : ofRow (List.replicate n 3) zeros = (r3, e3))
    (hl1 : (F == hB r 0 && S == hB r 64) = true) (hl3 : (F3 == hB r3 0 && S3 == hB r3 64) = true) :
    Calls Try.prog 4 #[.slice A n cap] w fun v w' => v = .returned (.bool true) ∧ Below w.heap.size w w' := by
  have hz := zero40
  have QL : Hid (∀ w, InL w A ys → Calls Try.prog 20 #[.slice A n cap] w fun e w' => e = .returned (.slice (some ⟨w.heap.size, 0, none⟩) (n + 8) (n + 8)) ∧ Blk w' w.heap.size 3 (intA (lentK ys (n + 8))) ∧ Below w.heap.size w w') := Lib.hid fun w h => lent_any A n cap ys hn hb w h
  have QO : Hid (∀ (g : Nat) (w : World), Blk w g 3 (intA (lentK ys (n + 8))) → Calls Try.prog 21 #[.slice (some ⟨g, 0, none⟩) n (n + 8)] w fun v w' => v = .returned (.tuple #[.agg #[.int .u64 (iv F), .int .u64 (iv S)], .int .i64 e]) ∧ Below w.heap.size w w') := Lib.hid fun g w h => by
    have := of_at g n (n + 8) _ ys hn hb w h (by rw [lentK_len]; omega) (fun k hk => lent_get ys n k hn hk)
    rwa [h1] at this
  have QB : Hid (∀ (g : Nat) (w : World), Blk w g 3 (intA (lentK ys (n + 8))) → (∀ k, k < n → ∃ b off, A = some ⟨b, off, none⟩ ∧ b < w.heap.size ∧ b ≠ g ∧ w.cell? ⟨b, off + k, none⟩ = some (.int .i64 (ys.getD k 0))) →
      Calls Try.prog 22 #[.slice (some ⟨g, 0, none⟩) (n + 8) (n + 8), .slice A n cap] w fun e w' => e = .returned (.bool true) ∧ w.grownBy w' (some g) ∧ Blk w' g 3 (intA (List.replicate (n + 8) 3))) := Lib.hid fun g w h h' => back_any A g n cap ys hn hb w h h'
  have QR : Hid (∀ w, InL w A ys → Calls Try.prog 23 #[.slice A n cap] w fun v w' => v = .returned (.tuple #[.agg (rowA r), .int .i64 e]) ∧ Below w.heap.size w w') := Lib.hid fun w h => by
    have := rof_any A n cap ys hn hb w h
    rwa [h2] at this
  have QP : Hid (∀ (g : Nat) (w : World), Blk w g 3 (intA (List.replicate (n + 8) 3)) → Calls Try.prog 21 #[.slice (some ⟨g, 0, none⟩) n (n + 8)] w fun v w' => v = .returned (.tuple #[.agg #[.int .u64 (iv F3), .int .u64 (iv S3)], .int .i64 e3]) ∧ Below w.heap.size w w') := Lib.hid fun g w h => by
    have := of_at g n (n + 8) _ (List.replicate n 3) (by simp) hb w h (by simp) (fun k hk => by rw [rep_get _ _ (by omega), rep_get _ _ hk])
    rwa [h3] at this
  have QS : Hid (∀ (g : Nat) (w : World), Blk w g 3 (intA (List.replicate (n + 8) 3)) → Calls Try.prog 23 #[.slice (some ⟨g, 0, none⟩) n (n + 8)] w fun v w' => v = .returned (.tuple #[.agg (rowA r3), .int .i64 e3]) ∧ Below w.heap.size w w') := Lib.hid fun g w h => by
    have := rof_any (some ⟨g, 0, none⟩) n (n + 8) (List.replicate n 3) (by simp) hb w (InL.blk _ h (by simp) (fun k hk => by rw [List.length_replicate] at hk; rw [rep_get _ _ (by omega), rep_get _ _ hk]))
    rwa [h4] at this
  have QM : Hid (∀ w, Calls Try.prog 24 #[.agg #[.int .u64 (iv F), .int .u64 (iv S)], .agg (rowA r)] w fun v w' => v = .returned (.bool true) ∧ Below w.heap.size w w') := Lib.hid fun w => by
    have := like_any F S r hr w; rwa [hl1] at this
  have QN : Hid (∀ w, Calls Try.prog 24 #[.agg #[.int .u64 (iv F3), .int .u64 (iv S3)], .agg (rowA r3)] w fun v w' => v = .returned (.bool true) ∧ Below w.heap.size w w') := Lib.hid fun w => by
    have := like_any F3 S3 r3 hr3 w; rwa [hl3] at this
  have HSr : Hid ((Try.prog.info? 40).map (·.size) = some (rowA r).size) := by show _ = _; rw [info40, rowA_size, hr]
  have HZr : Hid ((rowA zeros).size = (rowA r).size) := by show _ = _; rw [rowA_size, rowA_size, hr]; exact zeros_len
  have H1r : Hid ((rowA r).all (·.oneCell') = true) := rowA_one r
  have HS3 : Hid ((Try.prog.info? 40).map (·.size) = some (rowA r3).size) := by show _ = _; rw [info40, rowA_size, hr3]
  have HZ3 : Hid ((rowA zeros).size = (rowA r3).size) := by show _ = _; rw [rowA_size, rowA_size, hr3]; exact zeros_len
  have H13 : Hid ((rowA r3).all (·.oneCell') = true) := rowA_one r3
  have HI := Lib.hid hI
  have HN := Lib.hid hn
  obtain ⟨cF, hcF⟩ : ∃ c, #[Value.int .u64 (iv F), .int .u64 (iv S)] = c := ⟨_, rfl⟩
  obtain ⟨c3, hc3⟩ : ∃ c, #[Value.int .u64 (iv F3), .int .u64 (iv S3)] = c := ⟨_, rfl⟩
  have HF := Lib.hid hcF
  have H3 := Lib.hid hc3
  have s1 : (n : Int) ≤ ((n + 8 : Nat) : Int) := by omega
  clear hI hn hr hr3 h1 h2 h3 h4 hl1 hl3 hcF hc3
  go_enter Try.func4, Try.ntmps4
  go_wp2_with (first
    | (go_at_call 11; refine (examples_ok _).mono ?_; rintro v w1 ⟨rfl, hb1⟩; have HI1 := Lib.hid (HI.out.below hb1); have hs1 := hb1.size)
    | (go_at_call 20; refine (QL.out _ HI1.out).mono ?_; rintro v w2 ⟨rfl, hX, hb2⟩; have B2 : Hid (Bs w w2 [(w1.heap.size, 3, intA (lentK ys (n + 8)))]) := Lib.hid ⟨hb1.trans (hb2.mono hs1), fun x hx => (by rw [List.mem_singleton] at hx; subst hx; exact hX), fun x hx => (by rw [List.mem_singleton] at hx; subst hx; exact hs1)⟩; obtain ⟨G, hG⟩ : ∃ G, w1.heap.size = G := ⟨_, rfl⟩; rw [hG] at B2 ⊢; clear hX hb1 hb2 HI1 hs1 hG)
    | (go_at_call 21; refine (QO.out _ _ B2.out.hd).mono ?_; rintro v w3 ⟨rfl, hb3⟩; have B3 := Lib.hid ((B2.out.call hb3).new 24 #[.int .u64 (iv F), .int .u64 (iv S)]); have l3 := Nat.lt_of_lt_of_le B2.out.hd.lt hb3.size; clear B2 hb3)
    | (go_at_call 21; refine (QO.out _ _ (B3.out.at_ (List.mem_cons_of_mem _ (List.mem_cons_self ..)))).mono ?_; rintro v w4 ⟨rfl, hb4⟩; have B4 := Lib.hid ((B3.out.call hb4).new 24 #[.int .u64 (iv F), .int .u64 (iv S)]); have l4 := Nat.lt_of_lt_of_le B3.out.hd.lt hb4.size; clear B3 hb4)
    | (go_at_call 22; refine (QB.out _ _ (B4.out.at_ (List.mem_cons_of_mem _ (List.mem_cons_of_mem _ (List.mem_cons_self ..)))) (fun k hk => ?_)).mono ?_; (· obtain ⟨b, off, e1, e2, e3⟩ := HI.out k (by rw [HN.out]; exact hk); exact ⟨b, off, e1, Nat.lt_of_lt_of_le e2 B4.out.1.size, by have := B4.out.2.2 _ (List.mem_cons_of_mem _ (List.mem_cons_of_mem _ (List.mem_cons_self ..))); simp only at this; omega, (B4.out.1.cell (p := ⟨b, off + k, none⟩) e2).trans e3⟩); rintro v w5 ⟨rfl, hg5, hX5⟩; have B5 := Lib.hid (Bs.only (L := [(w4.heap.size, 24, #[.int .u64 (iv F), .int .u64 (iv S)]), (w3.heap.size, 24, #[.int .u64 (iv F), .int .u64 (iv S)])]) B4.out hg5 hX5 (by intro x hx; simp only [List.mem_cons, List.not_mem_nil, or_false] at hx; rcases hx with rfl | rfl <;> simp only <;> omega)); have l5 : w4.heap.size < w5.heap.size := B5.out.hd.lt; clear B4 hg5 hX5)
    | (go_at_call 23; refine (QR.out _ (HI.out.below B5.out.1)).mono ?_; rintro v w6 ⟨rfl, hb6⟩; have B6 := Lib.hid ((B5.out.call hb6).new 40 (rowA zeros)); have l6 : w4.heap.size < w6.heap.size := Nat.lt_of_lt_of_le l5 hb6.size; clear B5 hb6)
    | (have Bq := B6; refine wpList_store_row rfl 40 (.tmp 10) (.tmp 43) rfl _ (rowA r) rfl rfl 40 (rowA zeros) B6.out.hd HSr.out HZr.out H1r.out ?_; have B7 := Lib.hid (B6.out.row (r := r) (by intro x hx; simp only [List.cons_append, List.nil_append, List.mem_cons, List.not_mem_nil, or_false] at hx; rcases hx with rfl | rfl | rfl <;> simp only <;> omega)); clear B6)
    | (go_at_call 21; refine (QP.out _ _ (B7.out.at_ (List.mem_cons_of_mem _ (List.mem_cons_of_mem _ (List.mem_cons_of_mem _ (List.mem_cons_self ..)))))).mono ?_; rintro v w8 ⟨rfl, hb8⟩; have B8 := Lib.hid ((B7.out.call hb8).new 24 #[.int .u64 (iv F3), .int .u64 (iv S3)]); have l8 : w6.heap.size < w8.heap.size := Nat.lt_of_lt_of_le B7.out.hd.lt hb8.size; clear B7 hb8)
    | (go_at_call 23; refine (QS.out _ _ (B8.out.at_ (List.mem_cons_of_mem _ (List.mem_cons_of_mem _ (List.mem_cons_of_mem _ (List.mem_cons_of_mem _ (List.mem_cons_self ..))))))).mono ?_; rintro v w9 ⟨rfl, hb9⟩; have B9 := Lib.hid ((B8.out.call hb9).new 40 (rowA zeros)); have l9 : w8.heap.size < w9.heap.size := Nat.lt_of_lt_of_le B8.out.hd.lt hb9.size; clear B8 hb9)
    | (have Bq := B9; refine wpList_store_row rfl 40 (.tmp 14) (.tmp 59) rfl _ (rowA r3) rfl rfl 40 (rowA zeros) B9.out.hd HS3.out HZ3.out H13.out ?_; have Ba := Lib.hid (B9.out.row (r := r3) (by intro x hx; simp only [List.cons_append, List.nil_append, List.mem_cons, List.not_mem_nil, or_false] at hx; rcases hx with rfl | rfl | rfl | rfl | rfl <;> simp only <;> omega)); clear B9; have x0 := (Ba.out.at_ (g := w3.heap.size) (t := 24) (c := #[.int .u64 (iv F), .int .u64 (iv S)]) (List.mem_cons_of_mem _ (List.mem_cons_of_mem _ (List.mem_cons_of_mem _ (List.mem_cons_of_mem _ (List.mem_cons_self ..)))))).cell 0; have x1 := (Ba.out.at_ (g := w3.heap.size) (t := 24) (c := #[.int .u64 (iv F), .int .u64 (iv S)]) (List.mem_cons_of_mem _ (List.mem_cons_of_mem _ (List.mem_cons_of_mem _ (List.mem_cons_of_mem _ (List.mem_cons_self ..)))))).cell 1; simp at x0 x1)
    | (have Bq := Ba; refine wpList_load_row rfl 40 (.tmp 10) rfl _ rfl 40 (rowA r) (0, 0) _ (Ba.out.at_ (g := w6.heap.size) (List.mem_cons_of_mem _ (List.mem_cons_of_mem _ (List.mem_cons_self ..)))) Try.underlying40 rfl HSr.out ?_)
    | (go_at_call 24; refine (QM.out _).mono ?_; rintro v wb ⟨rfl, hbb⟩; have Bb := Lib.hid (Ba.out.call hbb); clear QM x0 x1 Ba hbb; have x0 := (Bb.out.at_ (g := w8.heap.size) (t := 24) (c := #[.int .u64 (iv F3), .int .u64 (iv S3)]) (List.mem_cons_of_mem _ (List.mem_cons_self ..))).cell 0; have x1 := (Bb.out.at_ (g := w8.heap.size) (t := 24) (c := #[.int .u64 (iv F3), .int .u64 (iv S3)]) (List.mem_cons_of_mem _ (List.mem_cons_self ..))).cell 1; simp at x0 x1)
    | (have Bq := Bb; refine wpList_load_row rfl 40 (.tmp 14) rfl _ rfl 40 (rowA r3) (0, 0) _ (Bb.out.at_ (g := w9.heap.size) (List.mem_cons_self ..)) Try.underlying40 rfl HS3.out ?_)
    | (go_at_call 24; refine (QN.out _).mono ?_; rintro v wc ⟨rfl, hbc⟩; have Bc := Lib.hid (Bb.out.call hbc); clear x0 x1 Bb hbc; have x0 := (Bc.out.at_ (g := w3.heap.size) (t := 24) (c := #[.int .u64 (iv F), .int .u64 (iv S)]) (List.mem_cons_of_mem _ (List.mem_cons_of_mem _ (List.mem_cons_of_mem _ (List.mem_cons_of_mem _ (List.mem_cons_self ..)))))).cell 0; have x1 := (Bc.out.at_ (g := w3.heap.size) (t := 24) (c := #[.int .u64 (iv F), .int .u64 (iv S)]) (List.mem_cons_of_mem _ (List.mem_cons_of_mem _ (List.mem_cons_of_mem _ (List.mem_cons_of_mem _ (List.mem_cons_self ..)))))).cell 1; have x2 := (Bc.out.at_ (g := w4.heap.size) (t := 24) (c := #[.int .u64 (iv F), .int .u64 (iv S)]) (List.mem_cons_of_mem _ (List.mem_cons_of_mem _ (List.mem_cons_of_mem _ (List.mem_cons_self ..))))).cell 0; have x3 := (Bc.out.at_ (g := w4.heap.size) (t := 24) (c := #[.int .u64 (iv F), .int .u64 (iv S)]) (List.mem_cons_of_mem _ (List.mem_cons_of_mem _ (List.mem_cons_of_mem _ (List.mem_cons_self ..))))).cell 1; simp at x0 x1 x2 x3))
  go_ret
  exact ⟨rfl, Bc.out.1⟩
end Go.Proofs.Ytieloocmkgficaa
