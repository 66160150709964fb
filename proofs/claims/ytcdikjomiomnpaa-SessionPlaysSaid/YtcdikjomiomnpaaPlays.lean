/-
  SessionPlays: the walk.
-/
import Derived.Test.YtcdikjomiomnpaaPlaysP
import Derived.StillTailTactics
import Derived.BigQuiet
namespace Go.Proofs.Ytcdikjomiomnpaa
open Go.RowKit Go.BigFrame
set_option linter.unusedVariables false
set_option linter.unusedSimpArgs false
theorem Try.info47 : (Try.prog.info? 47).map (fun i => (i.zero, i.size, i.bytes)) = some (some (.agg #[.pointer none, .pointer none]), 2, 16) := by kernel_rfl
theorem cell_two' (w : World) (x y : Value) (t : TypeId) (k : Nat) (hk : k = w.heap.size) : ∀ j u, [x, y][j]? = some u → (w.alloc (.cells #[x, y] t)).cell? ((⟨k, 0, none⟩ : Addr).add j) = some u := by
  subst hk; exact cell_two w x y t
theorem Row.at2 {w0 W : World} {ps : List PS} {f : Nat → S × Int} {p : PS} {L cap i N : Nat} (h : Row w0 (.slice (some ⟨L, 0, none⟩) N cap) ps f W) (hN : ps.length = N) (hp : ps[i]? = some p) :
    W.cell? ⟨L, i * 2, none⟩ = some (.pointer (some ⟨p.b, 0, none⟩)) ∧ W.cell? ⟨L, i * 2 + 1, none⟩ = some (.pointer (some ⟨p.g, 0, none⟩)) ∧ L < W.heap.size := by
  subst hN; exact h.at_ hp
theorem Row.keep {w0 W W' : World} {v : Value} {ps : List PS} {f : Nat → S × Int} (h : Row w0 v ps f W) (hg : W.grownBy W' v.ownBlock) {y : Nat} {t : TypeId} {cs : Array Value} (hy : Blk W y t cs) (ht : t ≠ 47) : Blk W' y t cs :=
  hy.grown hg (fun e => by
    obtain ⟨cur, hc⟩ := owns_own h.2.1 e.symm
    exact hy.apart hc ht rfl)
theorem Row.cell_gr {w0 W W' : World} {ps : List PS} {f : Nat → S × Int} {p : PS} {L cap i N : Nat} (h : Row w0 (.slice (some ⟨L, 0, none⟩) N cap) ps f W) (hp : ps[i]? = some p) (hg : Gr2 W W' p.b p.g) (j : Nat) :
    W'.cell? ⟨L, j, none⟩ = W.cell? ⟨L, j, none⟩ := by
  obtain ⟨cur, hc⟩ := owns_own h.2.1 (k := L) rfl
  have hi := h.2.2.1 i p hp
  have e := hg.2.2.2.2 L hc.lt (hc.apart hi.2.2.2.1 (by decide)) (hc.apart hi.2.2.2.2.1 (by decide))
  simp only [World.cell?, e]
theorem played_here {W W' : World} {p : PS} {B : Nat} {x : S × Int} (h : p.here B x W) {s' : S} {u' : Int} (h1 : OkS p.k p.n p.m s') (h2 : Wok s' u') (h3 : Blk W' p.b 63 s'.cells) (h4 : Blk W' p.g 65 (withW s' u').cells) : p.here B (s', u') W' :=
  ⟨h.1, h1, h2, h3, h4, h.2.2.2.2.2⟩
theorem play_here {W : World} {p : PS} {B : Nat} {x : S × Int} (h : p.here B x W) (v on nn : Int) (co an : ByteArray) (hn1 : -9223372036854775808 ≤ nn) (hn2 : nn ≤ 9223372036854775807) :
    Calls Try.prog 22 #[.agg #[.pointer (some ⟨p.b, 0, none⟩), .pointer (some ⟨p.g, 0, none⟩)], .agg #[.int .i64 v, .int .i64 on, .int .i64 nn, .string co, .string an]] W (Played W p.b p.g p.k p.n p.m) :=
  play_any p.b p.g v on nn co an p.k p.n p.m x.1 x.2 W h.1 h.2.1 h.2.2.1 hn1 hn2 h.2.2.2.1 h.2.2.2.2.1 (h.2.2.2.1.apart h.2.2.2.2.1 (by decide))
theorem state_here {W : World} {p : PS} {B : Nat} {x : S × Int} (h : p.here B x W) (st : Int) (hs : x.1.state = st) (n : Nat) :
    Calls Try.prog 13 #[.pointer (some ⟨p.b, 0, none⟩)] (W.drewN n) fun e w' => e = .returned (.int .i64 st) ∧ W.drewN n = w' := by
  obtain ⟨⟨ro, ec, an, st', wa, qu, tr⟩, u⟩ := x
  subst hs
  exact state_any p.b ro ec an st' wa qu tr _ (h.2.2.2.1.drewN n)
theorem rstate_here {W : World} {p : PS} {B : Nat} {x : S × Int} (h : p.here B x W) (st : Int) (hs : x.1.state = st) (n : Nat) :
    Calls Try.prog 23 #[.pointer (some ⟨p.g, 0, none⟩)] (W.drewN n) fun e w' => e = .returned (.int .i64 st) ∧ W.drewN n = w' := by
  obtain ⟨⟨ro, ec, an, st', wa, qu, tr⟩, u⟩ := x
  subst hs
  exact rstate_any p.g ro ec an st' u qu tr _ (h.2.2.2.2.1.drewN n)
theorem ready_here {W : World} {p : PS} {B : Nat} {x : S × Int} (h : p.here B x W) (r : Bool) (hs : readyB x.1.state = r) (n : Nat) :
    Calls Try.prog 18 #[.pointer (some ⟨p.b, 0, none⟩)] (W.drewN n) fun e w' => e = .returned (.bool r) ∧ W.drewN n = w' := by
  obtain ⟨⟨ro, ec, an, st', wa, qu, tr⟩, u⟩ := x
  subst hs
  exact ready_any p.b ro ec an st' wa qu tr _ (h.2.2.2.1.drewN n)
theorem rready_here {W : World} {p : PS} {B : Nat} {x : S × Int} (h : p.here B x W) (r : Bool) (hs : readyB x.1.state = r) (n : Nat) :
    Calls Try.prog 24 #[.pointer (some ⟨p.g, 0, none⟩)] (W.drewN n) fun e w' => e = .returned (.bool r) ∧ W.drewN n = w' := by
  obtain ⟨⟨ro, ec, an, st', wa, qu, tr⟩, u⟩ := x
  subst hs
  exact rready_any p.g ro ec an st' u qu tr _ (h.2.2.2.2.1.drewN n)
theorem stp_lt {la : Nat} (hla : la ≤ 9223372036854775807) {j : Nat} (h : j < la) : (j : Int) + 1 ≤ 9223372036854775807 := by omega
set_option maxRecDepth 100000 in
set_option maxHeartbeats 2000000 in
theorem plays_bad (ro ec an : Int) (A : Option Addr) (la ca : Nat) (w : World) (r1 : -9223372036854775808 ≤ ec) (r2 : ec ≤ 9223372036854775807) (r3 : -9223372036854775808 ≤ an) (r4 : an ≤ 9223372036854775807) (n m : Int) (hn : pickP ec 30 = n) (hm : pickP an 20 = m) (hn0 : 0 ≤ n) (hn1 : n < 30) (hm0 : 0 ≤ m) (hm1 : m < 20)
    (hbad : badN ro ec an = true) (hS : Script w w.heap.size A la) (hla : la ≤ 9223372036854775807) :
    Calls Try.prog 6 #[.int .i64 ro, .int .i64 ec, .int .i64 an, .slice A la ca] w fun e w' => e = .returned (.bool true) ∧ Below w.heap.size w w' := by
  obtain ⟨i0, hi, hz0, hz1, hz2⟩ := info_parts Try.info47
  have HS := Lib.hid hS
  have HNN := Lib.hid hn
  have HMM := Lib.hid hm
  have HBAD := Lib.hid hbad
  clear hS hn hm hbad
  go_enter Try.func6, Try.ntmps6
  go_wp2_with (first
    | (go_at_call 19; refine (new_bad19 ro ec an _ HBAD.out).mono ?_; rintro e w' ⟨rfl, h⟩; obtain rfl := h.symm)
    | (go_at_call 21; refine (new_bad21 ro ec an _ HBAD.out).mono ?_; rintro e w' ⟨rfl, h⟩; obtain rfl := h.symm))
  go_loopw [13, 14] (fun v j wr => ∃ (t : Nat) (jj : Int) (ps : List PS) (f : Nat → S × Int), ps.length = t ∧ t ≤ 2 ∧ jj = t + 1 ∧ j = .int .i64 jj ∧ Hid (Row w v ps f wr)) (fun _ j _ => 3 - (intOf j).toNat)
  case atStart => exact ⟨0, 1, [], fun _ => (⟨0, 0, 0, 0, 0, 0, 0⟩, 0), rfl, by omega, by omega, rfl, Lib.hid (Row.nil w)⟩
  case round =>
    obtain ⟨t, jj, ps, f, hlen, ht, hjj, rfl, R⟩ := hrel
    have hs0 := R.out.1.size
    by_cases hlt : t < 2
    · have hb : Bd jj n (1 + m) := ⟨by omega, by omega, by omega, by omega, by omega⟩
      have HB := Lib.hid hb
      have HL := Lib.hid hlen
      have HK := Lib.hid (show jj = 1 ∨ jj = 2 by omega)
      have hj2 : jj ≤ 2 := by omega
      have hj0 : 1 ≤ jj := by omega
      have HJ := Lib.hid hjj
      have hpl : ps.length ≤ 1 := by omega
      have E1 := Lib.hid (show 0 ≤ n ∧ n ≤ 100000 ∧ 1 ≤ 1 + m ∧ 1 + m ≤ 100000 by omega)
      clear hb hlen hjj
      go_wp2_with (first
        | (go_at_call_of 9 (Value.int IntKind.i64 ec); refine (pick_is ec 30 n _ r1 r2 (by omega) (by omega) HNN.out).mono ?_; rintro e w' ⟨rfl, rfl⟩)
        | (go_at_call_of 9 (Value.int IntKind.i64 an); refine (pick_is an 20 m _ r3 r4 (by omega) (by omega) HMM.out).mono ?_; rintro e w' ⟨rfl, rfl⟩)
        | (go_at_call 19; refine (new_ok jj n (1 + m) _ HK.out E1.out.1 E1.out.2.1 E1.out.2.2.1 E1.out.2.2.2).mono ?_; rintro e w' ⟨rfl, rfl⟩)
        | (go_at_call 21; refine (rnew_ok jj n (1 + m) _ HK.out E1.out.1 E1.out.2.1 E1.out.2.2.1 E1.out.2.2.2).mono ?_; rintro e w' ⟨rfl, rfl⟩)
        | (at_builtin; refine wpList_append_own _ rfl _ _ 45 rfl w.heap.size 47 i0 (.agg #[.pointer none, .pointer none]) 2 16 Try.underlying45 hi hz0 hz1 hz2 rfl (by decide) _ _ _ rfl (Row.alloc (Row.alloc (Row.alloc R.out _) _) _).2.1 ⟨_, 0, none⟩ 1 1 [.pointer (some ⟨wr.heap.size, 0, none⟩), .pointer (some ⟨wr.heap.size + 1, 0, none⟩)] rfl rfl (cell_two' _ _ _ _ _ (by simp)) (fun x hx => by simp at hx; rcases hx with rfl | rfl <;> rfl) (by unfold maxLen; omega) (by omega) (by simp; omega) ?_; intro v' w3 hown hgrow hnil; have R3 := Lib.hid (Row.add (p := ⟨wr.heap.size, wr.heap.size + 1, jj, n, 1 + m⟩) (Row.alloc (Row.alloc (Row.alloc R.out _) _) _) hown hgrow (zeros_here HB.out (((Blk.new _ _ _).alloc _).alloc _) ((Blk.new2 _ _ _ _).alloc _) R.out.1.size (Nat.le_succ_of_le R.out.1.size)) (fun q hq => (by obtain ⟨i, hi'⟩ := List.mem_iff_getElem?.1 hq; have q1 := R.out.2.2.1 i q hi'; have q2 := q1.2.2.2.1.lt; have q3 := q1.2.2.2.2.1.lt; simp only; omega))); clear hown hgrow hnil))
      go_roundw
      case rel => exact ⟨t + 1, jj + 1, _, _, by rw [List.length_append, HL.out]; rfl, by omega, by have := HJ.out; omega, by go_num, R3⟩
      case measure => simp [intOf]; omega
    · have ht2 : t = 2 := by omega
      subst ht2
      have hj3 : jj = 3 := by omega
      subst hj3
      clear hjj
      obtain ⟨N, hN⟩ : ∃ N, ps.length = N := ⟨_, rfl⟩
      obtain ⟨L, cap, rfl⟩ := R.out.shape (by omega)
      rw [hN] at R ⊢
      have hN0 : 0 < N := by omega
      have hN3 : N ≤ 3 := by omega
      have HN := Lib.hid hN
      clear hN hlen
      go_wp2
      go_loopw [21] (fun i wr => ∃ (j : Nat) (f : Nat → S × Int), j ≤ la ∧ i = .int .i64 j ∧ Hid (Row w (.slice (some ⟨L, 0, none⟩) N cap) ps f wr)) (fun i _ => la - (intOf i).toNat)
      case atStart => exact ⟨0, f, by omega, rfl, R⟩
      case round =>
        clear R
        obtain ⟨j, f, hj, rfl, R⟩ := hrel
        by_cases hin : j < la
        · obtain ⟨bs, os, v0, on, nn, co, an, rfl, hbs, hy0, hy1, hy2, hy3, hy4, hon1, hon2, hnn1, hnn2⟩ := HS.out j hin
          have y0 := (R.out.1.cell (p := ⟨bs, os + j * 5, none⟩) hbs).trans hy0
          have y1 := (R.out.1.cell (p := ⟨bs, os + j * 5 + 1, none⟩) hbs).trans hy1
          have y2 := (R.out.1.cell (p := ⟨bs, os + j * 5 + 2, none⟩) hbs).trans hy2
          have y3 := (R.out.1.cell (p := ⟨bs, os + j * 5 + 3, none⟩) hbs).trans hy3
          have y4 := (R.out.1.cell (p := ⟨bs, os + j * 5 + 4, none⟩) hbs).trans hy4
          clear hy0 hy1 hy2 hy3 hy4
          have hq0 := pickP_lo on (N : Int) (by omega)
          have hq1 := pickP_hi on (N : Int) (by omega)
          obtain ⟨q, hq⟩ : ∃ q : Nat, pickP on (N : Int) = q := ⟨(pickP on (N : Int)).toNat, by omega⟩
          have hqN : q < N := by omega
          obtain ⟨p, hp⟩ : ∃ p, ps[q]? = some p := ⟨_, List.getElem?_eq_getElem (by rw [HN.out]; exact hqN)⟩
          obtain ⟨c0, c1, lL⟩ := R.out.at2 HN.out hp
          have HP := Lib.hid (R.out.2.2.1 q p hp)
          have HQ := Lib.hid hq
          have HPS := Lib.hid hp
          have hqI : (q : Int) < (N : Int) := by omega
          clear hq0 hq1 hq hp
          go_wp2
          refine wp_region_still_tail 15 (by kernel_rfl) (by kernel_rfl) ?_
          simp only [List.take_succ_cons, List.take_zero, List.drop_succ_cons, List.drop_zero]
          repeat still_step
          still_call (pick_is on N q _ hon1 hon2 (by omega) (by omega) HQ.out).mono (fun e w' ⟨h1, h2⟩ => ⟨h1, h2.symm⟩)
          repeat still_step
          refine wpStill_nil ?_
          obtain ⟨wd, hwd⟩ : ∃ wd, wr.drew = wd := ⟨_, rfl⟩
          change wpList _ _ _ _ _ wr.drew
          rw [hwd]
          have RD : Hid (Row w (.slice (some ⟨L, 0, none⟩) N cap) ps f wd) := by rw [← hwd]; exact Lib.hid R.out.drew
          have HPD : Hid (p.here w.heap.size (f q) wd) := by rw [← hwd]; exact HP
          clear hwd R HP y0 y1 y2 y3 y4 c0 c1 lL
          go_wp2_with (first
            | (go_at_call 22; refine (play_here HPD.out v0 on nn co an hnn1 hnn2).mono ?_; rintro e w4 ⟨rfl, s', u', h1, h2, h3, h4, hg⟩; have R4 := Lib.hid (Row.step RD.out HPS.out hg (played_here HPD.out h1 h2 h3 h4)); clear h1 h2 h3 h4 hg RD HPD HPS))
          go_loopw [23] (fun i wr => ∃ (t : Nat) (f : Nat → S × Int), t ≤ N ∧ i = .int .i64 t ∧ Hid (Row w (.slice (some ⟨L, 0, none⟩) N cap) ps f wr)) (fun i _ => N - (intOf i).toNat)
          case atStart => exact ⟨0, _, by omega, rfl, R4⟩
          case round =>
            clear R4
            obtain ⟨t, f, ht, rfl, R⟩ := hrel
            by_cases htN : t < N
            · obtain ⟨p, hp⟩ : ∃ p, ps[t]? = some p := ⟨_, List.getElem?_eq_getElem (by rw [HN.out]; exact htN)⟩
              obtain ⟨c0, c1, lL⟩ := R.out.at2 HN.out hp
              have HP := Lib.hid (R.out.2.2.1 t p hp)
              obtain ⟨st, hst⟩ : ∃ st, (f t).1.state = st := ⟨_, rfl⟩
              obtain ⟨rd, hrd⟩ : ∃ rd, readyB (f t).1.state = rd := ⟨_, rfl⟩
              have HST := Lib.hid hst
              have HRD := Lib.hid hrd
              clear hst hrd hp
              go_wp2
              go_quiet (first
                | exact (state_here HP.out st HST.out _).mono fun e w' ⟨h1, h2⟩ => ⟨h1, _, h2.symm⟩
                | exact (rstate_here HP.out st HST.out _).mono fun e w' ⟨h1, h2⟩ => ⟨h1, _, h2.symm⟩
                | exact (ready_here HP.out rd HRD.out _).mono fun e w' ⟨h1, h2⟩ => ⟨h1, _, h2.symm⟩
                | exact (rready_here HP.out rd HRD.out _).mono fun e w' ⟨h1, h2⟩ => ⟨h1, _, h2.symm⟩)
              go_wp2
              go_roundw
              case rel => exact ⟨t + 1, f, by omega, by go_num, Lib.hid (R.out.drewN _)⟩
              case measure => simp [intOf]; omega
            · go_wp2
              go_roundw
              case rel => exact ⟨j + 1, f, by omega, by go_num, R⟩
              case measure => simp [intOf]; omega
        · go_wp2
          go_loopw [24] (fun i wr => ∃ (t : Nat) (f : Nat → S × Int), t ≤ N ∧ i = .int .i64 t ∧ Hid (Row w (.slice (some ⟨L, 0, none⟩) N cap) ps f wr)) (fun i _ => N - (intOf i).toNat)
          case atStart => exact ⟨0, f, by omega, rfl, R⟩
          case round =>
            clear R
            obtain ⟨t, f, ht, rfl, R⟩ := hrel
            by_cases htN : t < N
            · obtain ⟨p, hp⟩ : ∃ p, ps[t]? = some p := ⟨_, List.getElem?_eq_getElem (by rw [HN.out]; exact htN)⟩
              have HPS := Lib.hid hp
              clear hp
              go_wp2
              go_loopw [25] (fun i wr => ∃ (z : Nat) (f : Nat → S × Int), z ≤ 70 ∧ i = .int .i64 z ∧ Hid (Row w (.slice (some ⟨L, 0, none⟩) N cap) ps f wr)) (fun i _ => 70 - (intOf i).toNat)
              case atStart => exact ⟨0, f, by omega, rfl, R⟩
              case round =>
                clear R
                obtain ⟨z, f, hz, rfl, R⟩ := hrel
                by_cases hz70 : z < 70
                · obtain ⟨c0, c1, lL⟩ := R.out.at2 HN.out HPS.out
                  have HP := Lib.hid (R.out.2.2.1 t p HPS.out)
                  have HC := Lib.hid c1
                  obtain ⟨s', u', yc, ya, yl, hok', hu', QA0, QB0⟩ := two_tick (b := p.b) (g := p.g) HP.out.1 HP.out.2.1 HP.out.2.2.1
                  have QA := Lib.hid QA0
                  have QB := Lib.hid QB0
                  have HOK' := Lib.hid hok'
                  have HU' := Lib.hid hu'
                  have P : Hid (Pq wr p.b p.g (f t).1.cells (withW (f t).1 (f t).2).cells [] wr) := Lib.hid ⟨HP.out.2.2.2.1.lt, HP.out.2.2.2.2.1.lt, HP.out.2.2.2.1.apart HP.out.2.2.2.2.1 (by decide), Gr2.refl _ _ _, HP.out.2.2.2.1, HP.out.2.2.2.2.1, fun x hx => by cases hx⟩
                  clear QA0 QB0 hok' hu' c1
                  go_wp2_with (first
                    | (go_at_call 11; refine (QA.out _ P.out.pa).mono ?_; rintro e w1 ⟨rfl, hb1, hg1⟩; have P1 := Lib.hid (Pq.a P.out hb1 hg1); have x1 := (R.out.cell_gr HPS.out P1.out.gr (t * 2 + 1)).trans HC.out; have lL1 : L < w1.heap.size := Nat.lt_of_lt_of_le lL hg1.size; clear c0 hb1 hg1)
                    | (go_at_call 25; refine (QB.out _ (Pq.pb (Pq.new P1.out _ _))).mono ?_; rintro e w2 ⟨rfl, hb2, hg2⟩; have P2 := Lib.hid (Pq.b_ (Pq.new P1.out 27 #[.string yc, .string ya, .bool yl]) hb2 hg2); have r2 : Blk w2 w1.heap.size 27 #[.string yc, .string ya, .bool yl] := P2.out.at_ (List.mem_cons_self ..); have l2 := r2.lt; have d0 := r2.cell 0; have d1 := r2.cell 1; have d2 := r2.cell 2; simp at d0 d1 d2; clear r2 hb2 hg2)
                    | (go_at_call 26; refine (same_yes _ _ _ _).mono ?_; rintro e w3 ⟨rfl, hb3⟩; have P3 := Lib.hid (Pq.call (Pq.new P2.out 51 #[.string yc, .string ya, .bool yl]) hb3)))
                  go_roundw
                  case rel => exact ⟨z + 1, _, by omega, by go_num, Lib.hid (Row.step R.out HPS.out P3.out.gr (played_here HP.out HOK'.out HU'.out P3.out.pa P3.out.pb))⟩
                  case measure => simp [intOf]; omega
                · go_wp2
                  go_roundw
                  case rel => exact ⟨t + 1, f, by omega, by go_num, R⟩
                  case measure => simp [intOf]; omega
            · go_wp2
              go_ret
              exact ⟨rfl, R.out.1⟩
set_option maxRecDepth 100000 in
set_option maxHeartbeats 2000000 in
theorem plays_ok (ro ec an : Int) (A : Option Addr) (la ca : Nat) (w : World) (r1 : -9223372036854775808 ≤ ec) (r2 : ec ≤ 9223372036854775807) (r3 : -9223372036854775808 ≤ an) (r4 : an ≤ 9223372036854775807) (n m : Int) (hn : pickP ec 30 = n) (hm : pickP an 20 = m) (hn0 : 0 ≤ n) (hn1 : n < 30) (hm0 : 0 ≤ m) (hm1 : m < 20)
    (hbad : badN ro ec an = false) (hS : Script w w.heap.size A la) (hla : la ≤ 9223372036854775807) :
    Calls Try.prog 6 #[.int .i64 ro, .int .i64 ec, .int .i64 an, .slice A la ca] w fun e w' => e = .returned (.bool true) ∧ Below w.heap.size w w' := by
  obtain ⟨i0, hi, hz0, hz1, hz2⟩ := info_parts Try.info47
  have HS := Lib.hid hS
  have HNN := Lib.hid hn
  have HMM := Lib.hid hm
  have HBAD := Lib.hid hbad
  clear hS hn hm hbad
  go_enter Try.func6, Try.ntmps6
  have hz0' : ro = 1 ∨ ro = 2 := by have := HBAD.out; simp [badN] at this; omega
  have hbd : 0 ≤ ec ∧ ec ≤ 100000 ∧ 1 ≤ an ∧ an ≤ 100000 := by have := HBAD.out; simp [badN] at this; omega
  have HR0 := Lib.hid hz0'
  have HBD := Lib.hid hbd
  clear hz0' hbd
  go_wp2_with (first
    | (go_at_call 19; refine (new_ok ro ec an _ HR0.out HBD.out.1 HBD.out.2.1 HBD.out.2.2.1 HBD.out.2.2.2).mono ?_; rintro e w' ⟨rfl, rfl⟩)
    | (go_at_call 21; refine (rnew_ok ro ec an _ HR0.out HBD.out.1 HBD.out.2.1 HBD.out.2.2.1 HBD.out.2.2.2).mono ?_; rintro e w' ⟨rfl, rfl⟩))
  go_loopw [13, 14] (fun v j wr => ∃ (t : Nat) (jj : Int) (ps : List PS) (f : Nat → S × Int), ps.length = t ∧ t ≤ 2 ∧ jj = t + 1 ∧ j = .int .i64 jj ∧ Hid (Row w v ps f wr) ∧ Hid (Blk wr w.heap.size 63 (S.cells ⟨ro, ec, an, 0, 0, 0, 0⟩) ∧ Blk wr (w.heap.size + 1) 65 (S.cells ⟨ro, ec, an, 0, 0, 0, 0⟩) ∧ ∀ q ∈ ps, q.b ≠ w.heap.size ∧ q.g ≠ (w.heap.size + 1))) (fun _ j _ => 3 - (intOf j).toNat)
  case atStart => exact ⟨0, 1, [], fun _ => (⟨0, 0, 0, 0, 0, 0, 0⟩, 0), rfl, by omega, by omega, rfl, Lib.hid (Row.alloc (Row.alloc (Row.nil w) _) _), Lib.hid ⟨(Blk.new _ _ _).alloc _, Blk.new2 _ _ _ _, fun q hq => by cases hq⟩⟩
  case round =>
    obtain ⟨t, jj, ps, f, hlen, ht, hjj, rfl, R, X⟩ := hrel
    have hs0 := R.out.1.size
    by_cases hlt : t < 2
    · have hb : Bd jj n (1 + m) := ⟨by omega, by omega, by omega, by omega, by omega⟩
      have HB := Lib.hid hb
      have HL := Lib.hid hlen
      have HK := Lib.hid (show jj = 1 ∨ jj = 2 by omega)
      have hj2 : jj ≤ 2 := by omega
      have hj0 : 1 ≤ jj := by omega
      have HJ := Lib.hid hjj
      have hpl : ps.length ≤ 1 := by omega
      have E1 := Lib.hid (show 0 ≤ n ∧ n ≤ 100000 ∧ 1 ≤ 1 + m ∧ 1 + m ≤ 100000 by omega)
      clear hb hlen hjj
      go_wp2_with (first
        | (go_at_call_of 9 (Value.int IntKind.i64 ec); refine (pick_is ec 30 n _ r1 r2 (by omega) (by omega) HNN.out).mono ?_; rintro e w' ⟨rfl, rfl⟩)
        | (go_at_call_of 9 (Value.int IntKind.i64 an); refine (pick_is an 20 m _ r3 r4 (by omega) (by omega) HMM.out).mono ?_; rintro e w' ⟨rfl, rfl⟩)
        | (go_at_call 19; refine (new_ok jj n (1 + m) _ HK.out E1.out.1 E1.out.2.1 E1.out.2.2.1 E1.out.2.2.2).mono ?_; rintro e w' ⟨rfl, rfl⟩)
        | (go_at_call 21; refine (rnew_ok jj n (1 + m) _ HK.out E1.out.1 E1.out.2.1 E1.out.2.2.1 E1.out.2.2.2).mono ?_; rintro e w' ⟨rfl, rfl⟩)
        | (at_builtin; refine wpList_append_own _ rfl _ _ 45 rfl w.heap.size 47 i0 (.agg #[.pointer none, .pointer none]) 2 16 Try.underlying45 hi hz0 hz1 hz2 rfl (by decide) _ _ _ rfl (Row.alloc (Row.alloc (Row.alloc R.out _) _) _).2.1 ⟨_, 0, none⟩ 1 1 [.pointer (some ⟨wr.heap.size, 0, none⟩), .pointer (some ⟨wr.heap.size + 1, 0, none⟩)] rfl rfl (cell_two' _ _ _ _ _ (by simp)) (fun x hx => by simp at hx; rcases hx with rfl | rfl <;> rfl) (by unfold maxLen; omega) (by omega) (by simp; omega) ?_; intro v' w3 hown hgrow hnil; have R3 := Lib.hid (Row.add (p := ⟨wr.heap.size, wr.heap.size + 1, jj, n, 1 + m⟩) (Row.alloc (Row.alloc (Row.alloc R.out _) _) _) hown hgrow (zeros_here HB.out (((Blk.new _ _ _).alloc _).alloc _) ((Blk.new2 _ _ _ _).alloc _) R.out.1.size (Nat.le_succ_of_le R.out.1.size)) (fun q hq => (by obtain ⟨i, hi'⟩ := List.mem_iff_getElem?.1 hq; have q1 := R.out.2.2.1 i q hi'; have q2 := q1.2.2.2.1.lt; have q3 := q1.2.2.2.2.1.lt; simp only; omega))); have X3 := Lib.hid (And.intro ((Row.alloc (Row.alloc (Row.alloc R.out _) _) _).keep hgrow (((X.out.1.alloc _).alloc _).alloc _) (by decide)) (And.intro ((Row.alloc (Row.alloc (Row.alloc R.out _) _) _).keep hgrow (((X.out.2.1.alloc _).alloc _).alloc _) (by decide)) (show ∀ q ∈ ps ++ [PS.mk wr.heap.size (wr.heap.size + 1) jj n (1 + m)], q.b ≠ w.heap.size ∧ q.g ≠ (w.heap.size + 1) from (fun q hq => (by rcases List.mem_append.1 hq with hq | hq; (· exact X.out.2.2 q hq); (· rw [List.mem_singleton] at hq; subst hq; have x1 := X.out.1.lt; have x2 := X.out.2.1.lt; simp only; omega)))))); clear hown hgrow hnil))
      go_roundw
      case rel => exact ⟨t + 1, jj + 1, _, _, by rw [List.length_append, HL.out]; rfl, by omega, by have := HJ.out; omega, by go_num, R3, X3⟩
      case measure => simp [intOf]; omega
    · have ht2 : t = 2 := by omega
      subst ht2
      have hj3 : jj = 3 := by omega
      subst hj3
      clear hjj
      have hpl : ps.length ≤ 2 := by omega
      have HL := Lib.hid hlen
      clear hlen
      go_wp2_with (at_builtin; refine wpList_append_own _ rfl _ _ 45 rfl w.heap.size 47 i0 (.agg #[.pointer none, .pointer none]) 2 16 Try.underlying45 hi hz0 hz1 hz2 rfl (by decide) _ _ _ rfl (Row.alloc R.out _).2.1 ⟨_, 0, none⟩ 1 1 [.pointer (some ⟨w.heap.size, 0, none⟩), .pointer (some ⟨(w.heap.size + 1), 0, none⟩)] rfl rfl (cell_two' _ _ _ _ _ (by simp)) (fun x hx => by simp at hx; rcases hx with rfl | rfl <;> rfl) (by unfold maxLen; omega) (by omega) (by simp; omega) ?_; intro v' w3 hown hgrow hnil; have R3 := Lib.hid (Row.add (p := ⟨w.heap.size, (w.heap.size + 1), ro, ec, an⟩) (Row.alloc R.out _) hown hgrow (zeros_here ⟨HR0.out, HBD.out.1, HBD.out.2.1, HBD.out.2.2.1, HBD.out.2.2.2⟩ (X.out.1.alloc _) (X.out.2.1.alloc _) (by omega) (by omega)) (fun q hq => X.out.2.2 q hq)); clear hown hgrow hnil R X)
      obtain ⟨qs, hqs⟩ : ∃ qs, ps ++ [PS.mk w.heap.size (w.heap.size + 1) ro ec an] = qs := ⟨_, rfl⟩
      obtain ⟨f3, hf3⟩ : ∃ f3 : Nat → S × Int, (fun i => if i = ps.length then ((⟨ro, ec, an, 0, 0, 0, 0⟩ : S), (0 : Int)) else f i) = f3 := ⟨_, rfl⟩
      have hlen3 : qs.length = 3 := by rw [← hqs, List.length_append, HL.out]; rfl
      have R : Hid (Row w v' qs f3 w3) := by rw [← hqs, ← hf3]; exact R3
      clear R3 hqs hf3 HL hpl
      obtain ⟨N, hN⟩ : ∃ N, qs.length = N := ⟨_, rfl⟩
      obtain ⟨L, cap, rfl⟩ := R.out.shape (by omega)
      rw [hN] at R ⊢
      have hN0 : 0 < N := by omega
      have hN3 : N ≤ 3 := by omega
      have HN := Lib.hid hN
      clear hN hlen3
      clear ps f
      obtain ⟨ps, hps⟩ : ∃ ps, qs = ps := ⟨_, rfl⟩
      subst hps
      obtain ⟨f, hf⟩ : ∃ f, f3 = f := ⟨_, rfl⟩
      subst hf
      rename List PS => ps
      rename Nat → S × Int => f
      go_loopw [21] (fun i wr => ∃ (j : Nat) (f : Nat → S × Int), j ≤ la ∧ i = .int .i64 j ∧ Hid (Row w (.slice (some ⟨L, 0, none⟩) N cap) ps f wr)) (fun i _ => la - (intOf i).toNat)
      case atStart => exact ⟨0, f, by omega, rfl, R⟩
      case round =>
        clear R
        obtain ⟨j, f, hj, rfl, R⟩ := hrel
        by_cases hin : j < la
        · obtain ⟨bs, os, v0, on, nn, co, an, rfl, hbs, hy0, hy1, hy2, hy3, hy4, hon1, hon2, hnn1, hnn2⟩ := HS.out j hin
          have y0 := (R.out.1.cell (p := ⟨bs, os + j * 5, none⟩) hbs).trans hy0
          have y1 := (R.out.1.cell (p := ⟨bs, os + j * 5 + 1, none⟩) hbs).trans hy1
          have y2 := (R.out.1.cell (p := ⟨bs, os + j * 5 + 2, none⟩) hbs).trans hy2
          have y3 := (R.out.1.cell (p := ⟨bs, os + j * 5 + 3, none⟩) hbs).trans hy3
          have y4 := (R.out.1.cell (p := ⟨bs, os + j * 5 + 4, none⟩) hbs).trans hy4
          clear hy0 hy1 hy2 hy3 hy4
          have hq0 := pickP_lo on (N : Int) (by omega)
          have hq1 := pickP_hi on (N : Int) (by omega)
          obtain ⟨q, hq⟩ : ∃ q : Nat, pickP on (N : Int) = q := ⟨(pickP on (N : Int)).toNat, by omega⟩
          have hqN : q < N := by omega
          obtain ⟨p, hp⟩ : ∃ p, ps[q]? = some p := ⟨_, List.getElem?_eq_getElem (by rw [HN.out]; exact hqN)⟩
          obtain ⟨c0, c1, lL⟩ := R.out.at2 HN.out hp
          have HP := Lib.hid (R.out.2.2.1 q p hp)
          have HQ := Lib.hid hq
          have HPS := Lib.hid hp
          have hqI : (q : Int) < (N : Int) := by omega
          clear hq0 hq1 hq hp
          go_wp2
          refine wp_region_still_tail 15 (by kernel_rfl) (by kernel_rfl) ?_
          simp only [List.take_succ_cons, List.take_zero, List.drop_succ_cons, List.drop_zero]
          repeat still_step
          still_call (pick_is on N q _ hon1 hon2 (by omega) (by omega) HQ.out).mono (fun e w' ⟨h1, h2⟩ => ⟨h1, h2.symm⟩)
          repeat still_step
          refine wpStill_nil ?_
          obtain ⟨wd, hwd⟩ : ∃ wd, wr.drew = wd := ⟨_, rfl⟩
          change wpList _ _ _ _ _ wr.drew
          rw [hwd]
          have RD : Hid (Row w (.slice (some ⟨L, 0, none⟩) N cap) ps f wd) := by rw [← hwd]; exact Lib.hid R.out.drew
          have HPD : Hid (p.here w.heap.size (f q) wd) := by rw [← hwd]; exact HP
          clear hwd R HP y0 y1 y2 y3 y4 c0 c1 lL
          go_wp2_with (first
            | (go_at_call 22; refine (play_here HPD.out v0 on nn co an hnn1 hnn2).mono ?_; rintro e w4 ⟨rfl, s', u', h1, h2, h3, h4, hg⟩; have R4 := Lib.hid (Row.step RD.out HPS.out hg (played_here HPD.out h1 h2 h3 h4)); clear h1 h2 h3 h4 hg RD HPD HPS))
          go_loopw [23] (fun i wr => ∃ (t : Nat) (f : Nat → S × Int), t ≤ N ∧ i = .int .i64 t ∧ Hid (Row w (.slice (some ⟨L, 0, none⟩) N cap) ps f wr)) (fun i _ => N - (intOf i).toNat)
          case atStart => exact ⟨0, _, by omega, rfl, R4⟩
          case round =>
            clear R4
            obtain ⟨t, f, ht, rfl, R⟩ := hrel
            by_cases htN : t < N
            · obtain ⟨p, hp⟩ : ∃ p, ps[t]? = some p := ⟨_, List.getElem?_eq_getElem (by rw [HN.out]; exact htN)⟩
              obtain ⟨c0, c1, lL⟩ := R.out.at2 HN.out hp
              have HP := Lib.hid (R.out.2.2.1 t p hp)
              obtain ⟨st, hst⟩ : ∃ st, (f t).1.state = st := ⟨_, rfl⟩
              obtain ⟨rd, hrd⟩ : ∃ rd, readyB (f t).1.state = rd := ⟨_, rfl⟩
              have HST := Lib.hid hst
              have HRD := Lib.hid hrd
              clear hst hrd hp
              go_wp2
              go_quiet (first
                | exact (state_here HP.out st HST.out _).mono fun e w' ⟨h1, h2⟩ => ⟨h1, _, h2.symm⟩
                | exact (rstate_here HP.out st HST.out _).mono fun e w' ⟨h1, h2⟩ => ⟨h1, _, h2.symm⟩
                | exact (ready_here HP.out rd HRD.out _).mono fun e w' ⟨h1, h2⟩ => ⟨h1, _, h2.symm⟩
                | exact (rready_here HP.out rd HRD.out _).mono fun e w' ⟨h1, h2⟩ => ⟨h1, _, h2.symm⟩)
              go_wp2
              go_roundw
              case rel => exact ⟨t + 1, f, by omega, by go_num, Lib.hid (R.out.drewN _)⟩
              case measure => simp [intOf]; omega
            · go_wp2
              go_roundw
              case rel => exact ⟨j + 1, f, by omega, by go_num, R⟩
              case measure => simp [intOf]; omega
        · go_wp2
          go_loopw [24] (fun i wr => ∃ (t : Nat) (f : Nat → S × Int), t ≤ N ∧ i = .int .i64 t ∧ Hid (Row w (.slice (some ⟨L, 0, none⟩) N cap) ps f wr)) (fun i _ => N - (intOf i).toNat)
          case atStart => exact ⟨0, f, by omega, rfl, R⟩
          case round =>
            clear R
            obtain ⟨t, f, ht, rfl, R⟩ := hrel
            by_cases htN : t < N
            · obtain ⟨p, hp⟩ : ∃ p, ps[t]? = some p := ⟨_, List.getElem?_eq_getElem (by rw [HN.out]; exact htN)⟩
              have HPS := Lib.hid hp
              clear hp
              go_wp2
              go_loopw [25] (fun i wr => ∃ (z : Nat) (f : Nat → S × Int), z ≤ 70 ∧ i = .int .i64 z ∧ Hid (Row w (.slice (some ⟨L, 0, none⟩) N cap) ps f wr)) (fun i _ => 70 - (intOf i).toNat)
              case atStart => exact ⟨0, f, by omega, rfl, R⟩
              case round =>
                clear R
                obtain ⟨z, f, hz, rfl, R⟩ := hrel
                by_cases hz70 : z < 70
                · obtain ⟨c0, c1, lL⟩ := R.out.at2 HN.out HPS.out
                  have HP := Lib.hid (R.out.2.2.1 t p HPS.out)
                  have HC := Lib.hid c1
                  obtain ⟨s', u', yc, ya, yl, hok', hu', QA0, QB0⟩ := two_tick (b := p.b) (g := p.g) HP.out.1 HP.out.2.1 HP.out.2.2.1
                  have QA := Lib.hid QA0
                  have QB := Lib.hid QB0
                  have HOK' := Lib.hid hok'
                  have HU' := Lib.hid hu'
                  have P : Hid (Pq wr p.b p.g (f t).1.cells (withW (f t).1 (f t).2).cells [] wr) := Lib.hid ⟨HP.out.2.2.2.1.lt, HP.out.2.2.2.2.1.lt, HP.out.2.2.2.1.apart HP.out.2.2.2.2.1 (by decide), Gr2.refl _ _ _, HP.out.2.2.2.1, HP.out.2.2.2.2.1, fun x hx => by cases hx⟩
                  clear QA0 QB0 hok' hu' c1
                  go_wp2_with (first
                    | (go_at_call 11; refine (QA.out _ P.out.pa).mono ?_; rintro e w1 ⟨rfl, hb1, hg1⟩; have P1 := Lib.hid (Pq.a P.out hb1 hg1); have x1 := (R.out.cell_gr HPS.out P1.out.gr (t * 2 + 1)).trans HC.out; have lL1 : L < w1.heap.size := Nat.lt_of_lt_of_le lL hg1.size; clear c0 hb1 hg1)
                    | (go_at_call 25; refine (QB.out _ (Pq.pb (Pq.new P1.out _ _))).mono ?_; rintro e w2 ⟨rfl, hb2, hg2⟩; have P2 := Lib.hid (Pq.b_ (Pq.new P1.out 27 #[.string yc, .string ya, .bool yl]) hb2 hg2); have r2 : Blk w2 w1.heap.size 27 #[.string yc, .string ya, .bool yl] := P2.out.at_ (List.mem_cons_self ..); have l2 := r2.lt; have d0 := r2.cell 0; have d1 := r2.cell 1; have d2 := r2.cell 2; simp at d0 d1 d2; clear r2 hb2 hg2)
                    | (go_at_call 26; refine (same_yes _ _ _ _).mono ?_; rintro e w3 ⟨rfl, hb3⟩; have P3 := Lib.hid (Pq.call (Pq.new P2.out 51 #[.string yc, .string ya, .bool yl]) hb3)))
                  go_roundw
                  case rel => exact ⟨z + 1, _, by omega, by go_num, Lib.hid (Row.step R.out HPS.out P3.out.gr (played_here HP.out HOK'.out HU'.out P3.out.pa P3.out.pb))⟩
                  case measure => simp [intOf]; omega
                · go_wp2
                  go_roundw
                  case rel => exact ⟨t + 1, f, by omega, by go_num, R⟩
                  case measure => simp [intOf]; omega
            · go_wp2
              go_ret
              exact ⟨rfl, R.out.1⟩
end Go.Proofs.Ytcdikjomiomnpaa
