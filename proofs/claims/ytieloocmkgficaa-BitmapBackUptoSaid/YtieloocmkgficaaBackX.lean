/-
  BitmapBack: the walk, whole.
-/
import Derived.Test.YtieloocmkgficaaBackW
import Derived.Test.YtieloocmkgficaaDecBig
namespace Go.Proofs.Ytieloocmkgficaa
open Go.RowKit Go.Shelf
set_option linter.unusedVariables false
set_option linter.unusedSimpArgs false
attribute [local go_sem] Oper.semAt_some
def big64 (xs : List Int) : Bool := xs.any fun x => decide (64 < x)
theorem big_snoc (xs : List Int) (x : Int) : big64 (xs ++ [x]) = (big64 xs || decide (64 < x)) := by simp [big64]
def fs (ys : List Int) (k : Nat) : List Int := (ys.take k).map fieldP
theorem fs_succ (ys : List Int) (k : Nat) (h : k < ys.length) : fs ys (k + 1) = fs ys k ++ [fieldP (ys.getD k 0)] := by
  unfold fs
  rw [List.take_add_one, List.getElem?_eq_getElem h, List.map_append, List.getD, List.getElem?_eq_getElem h]
  rfl
theorem fs_len (ys : List Int) (k : Nat) (h : k ≤ ys.length) : (fs ys k).length = k := by simp [fs]; omega
theorem blk_kept {A B : World} {row : Option Nat} {g : Nat} {t : TypeId} {cs : Array Value} (h : Blk A g t cs) (hg : A.grownBy B row) (hr : ∀ r, row = some r → ∃ o : Obj, A.heap[r]? = some o ∧ o.isCells = false) : Blk B g t cs :=
  h.grown hg (fun e => by
    obtain ⟨o, ho, hc⟩ := hr g e.symm
    rw [show A.heap[g]? = _ from h] at ho
    cases ho
    cases hc)
/-- What the loop over the fields keeps. -/
structure RI (w : World) (g9 gm g24 gl : Nat) (xs : List Int) (F S : B64) (N : Nat) (pre : List Int) (W : World) : Prop where
  res : Blk W w.heap.size 4 #[.bool false]
  last : Blk W gl 3 #[.int .i64 (lastOf pre)]
  many : Blk W g24 3 #[.int .i64 ((N : Int) - pre.length)]
  has : Blk W g9 39 (rowA (memR xs))
  m : Blk W gm 24 #[.int .u64 (iv F), .int .u64 (iv S)]
theorem RI.kept {w : World} {g9 gm g24 gl : Nat} {xs : List Int} {F S : B64} {N : Nat} {pre : List Int} {A B : World} {row : Option Nat} (h : RI w g9 gm g24 gl xs F S N pre A) (hg : A.grownBy B row)
    (hr : ∀ r, row = some r → ∃ o : Obj, A.heap[r]? = some o ∧ o.isCells = false) : RI w g9 gm g24 gl xs F S N pre B :=
  ⟨blk_kept h.res hg hr, blk_kept h.last hg hr, blk_kept h.many hg hr, blk_kept h.has hg hr, blk_kept h.m hg hr⟩
theorem L1.boards {w wr w' : World} {g9 d0 : Nat} {xs : List Int} {v : Value} {o : Obj} (h : L1 w wr g9 d0 xs v) (hg : (wr.alloc o).grownBy w' v.ownBlock) : Blk w' g9 39 (rowA (memR xs)) :=
  (h.has.alloc _).grown hg (fun e => by have := (h.own.lt _ e.symm).1; have := h.hi; omega)
set_option maxRecDepth 100000 in
set_option maxHeartbeats 2000000 in
theorem back_run (A : Option Addr) (n cap : Nat) (ys : List Int) (enc K : Int) (t s : ByteArray) (F S : B64) (xs : List Int) (m : Nat)
    (hn : ys.length = n) (hy : ∀ z, z ∈ ys → -9223372036854775808 ≤ z ∧ z ≤ 9223372036854775807) (w : World) (hI : InL w A ys)
    (hm : m ≤ n ∧ m ≤ 300 ∧ (m = n ∨ m = 300)) (hxs : fs ys m = xs)
    (hof : ofGo xs 0#64 0#64 = (F, S, 0)) (hin : ∀ x, hasB F S x = decide (x ∈ xs))
    (QK : Hid (∀ w, Calls Try.prog 30 #[.int .i64 enc] w fun e w' => e = .returned (.int .i64 K) ∧ w = w'))
    (QE : Hid (∀ w, Calls Try.prog 25 #[.int .i64 K, .agg #[.int .u64 (iv F), .int .u64 (iv S)]] w fun e w' => e = .returned (.tuple #[.string s, .int .i64 0]) ∧ Below w.heap.size w w'))
    (QD : Hid (∀ w, Calls Try.prog 28 #[.int .i64 K, .string (s ++ t)] w fun e w' => e = .returned (.tuple #[.agg #[.int .u64 (iv F), .int .u64 (iv S)], .int .i64 0, .int .i64 (s.size : Int)]) ∧ Below w.heap.size w w'))
    (QS : Hid (∀ w, Calls Try.prog 28 #[.int .i64 K, .string (s.extract 0 (s.size - 1))] w fun e w' => e = .returned (.tuple #[.agg #[.int .u64 0, .int .u64 0], .int .i64 10, .int .i64 ((s.size : Int) - 1)]) ∧ Below w.heap.size w w'))
    (QL : Hid (∀ w, Calls Try.prog 31 #[.int .i64 K, .bool (big64 xs)] w fun e w' => e = .returned (.int .i64 (s.size : Int)) ∧ w = w'))
    (QR : Hid (∀ w, Calls Try.prog 19 #[.agg #[.int .u64 (iv F), .int .u64 (iv S)]] w fun e w' => e = .returned (.bool true) ∧ Below w.heap.size w w'))
    (hs0 : 8 ≤ s.size) (hs1 : s.size ≤ 32) (ht : t.size ≤ 1048576) :
    Calls Try.prog 8 #[.slice A n cap, .int .i64 enc, .string t] w fun e W' => e = .returned (.bool true) ∧ Below w.heap.size w W' := by
  obtain ⟨i0, hi, hz0, hz1, hz2⟩ := info_parts Try.info3i
  have hz := zero39
  have HN := Lib.hid hn
  have HI := Lib.hid hI
  have HY := Lib.hid hy
  have HXS := Lib.hid hxs
  have HOF := Lib.hid hof
  have HIN := Lib.hid hin
  clear hn hI hy hxs hof hin
  obtain ⟨m1, m2, m3⟩ := hm
  refine callsIn_wide (n := 5) |>.1 (callsIn_of_wp_marks Try.func8 rfl trivial (wpIn_wide.2 ?_) rfl)
  simp only [Try.ntmps8, List.size_toArray, List.length_cons, List.length_nil, Nat.reduceAdd, Nat.reduceSub, Array.replicate_succ, Array.replicate_zero, List.push_toArray, List.append_toArray, List.nil_append, List.cons_append]
  go_wp2_with (go_at_call 11; refine (examples_ok _).mono ?_; rintro e w1 ⟨rfl, hb1⟩; have HB1 := Lib.hid hb1; clear hb1)
  have HL0 : L1 w (w1.alloc (.cells (rowA zeros) 39)) w1.heap.size (w1.heap.size + 1) [] (.slice none 0 0) := by
    have hb1 := HB1.out
    have hs := hb1.size
    rw [World.size_alloc] at hs
    refine ⟨((Blk.new w 4 _).below hb1 (by simp)).alloc _, by rw [memR_nil]; exact Blk.new _ _ _, World.ownsRow_nil _ _ _ _, ?_, by omega, by omega, by simp⟩
    exact (((Below.refl _ w).alloc (Nat.le_refl _) (.cells #[.bool false] 4)).trans (hb1.mono (by simp))).alloc (by omega) _
  clear hz HB1
  go_loopw [8, 10, 11] (fun v b i wr => ∃ (k : Nat) (xk : List Int), k ≤ m ∧ i = .int .i64 k ∧ b = .bool (big64 xk) ∧ xk.length = k ∧ Hid (fs ys k = xk) ∧ L1 w wr w1.heap.size (w1.heap.size + 1) xk v) (fun _ _ i _ => m - (intOf i).toNat)
  case atStart => exact ⟨0, [], by omega, rfl, rfl, rfl, Lib.hid rfl, HL0⟩
  case round =>
    obtain ⟨k, xk, hk, rfl, rfl, hxl, hfk, hL⟩ := hrel
    clear HL0
    by_cases hlt : k < m
    · have hln : k < n := by omega
      have hl3 : k < 300 := by omega
      obtain ⟨b, off, rfl, hbs, hc⟩ := HI.out k (by rw [HN.out]; exact hln)
      have hcx : wr.cell? ⟨b, off + k, none⟩ = some (.int .i64 (ys.getD k 0)) := (hL.bel.cell (p := ⟨b, off + k, none⟩) hbs).trans hc
      obtain ⟨z, hzz⟩ : ∃ z, ys.getD k 0 = z := ⟨_, rfl⟩
      have hzr : -9223372036854775808 ≤ z ∧ z ≤ 9223372036854775807 := by
        have : ys.getD k 0 ∈ ys := by
          rw [List.getD, List.getElem?_eq_getElem (by rw [HN.out]; exact hln)]
          exact List.getElem_mem _
        rw [hzz] at this
        exact HY.out z this
      obtain ⟨q1, q2⟩ := hzr
      rw [hzz] at hcx
      obtain ⟨x, hx⟩ : ∃ x, fieldP z = x := ⟨_, rfl⟩
      have hxf := fieldP_fld z
      rw [hx] at hxf
      obtain ⟨x0, x1⟩ := fld_bd hxf
      have hfs : fs ys (k + 1) = xk ++ [x] := by rw [fs_succ ys k (by rw [HN.out]; exact hln), hfk.out, hzz, hx]
      have HFS := Lib.hid hfs
      have HZ := Lib.hid hx
      have HXF := Lib.hid hxf
      have HL := Lib.hid hL
      have hown := hL.own
      rw [hxl] at hown
      have hsz := hL.sz
      have y9 := (hL.has.cell x.toNat).trans (rowA_get _ _ (by rw [memR_len]; omega))
      have f9 := hL.has.frozen x.toNat
      have hxt : ((x.toNat : Nat) : Int) = x := by omega
      obtain ⟨v0, hv0⟩ : ∃ v, (memR xk).getD x.toNat false = v := ⟨_, rfl⟩
      rw [hv0] at y9
      obtain ⟨bb, hbb⟩ : ∃ b, big64 xk = b := ⟨_, rfl⟩
      have HBB := Lib.hid hbb
      rw [hbb]
      clear hfs hx hxf hL hzz hc hv0 hbb
      have hbig : big64 (xk ++ [x]) = (bb || decide (64 < x)) := by rw [big_snoc, HBB.out]
      have HG := Lib.hid hbig
      clear hbig
      cases bb <;> by_cases hx64 : 64 < x
      all_goals
        go_wp2_with (first
          | (go_at_call 15; refine (lawfield_any _ _ q1 q2).mono ?_; rintro e w' ⟨rfl, rfl⟩; rw [HZ.out])
          | (at_builtin; refine wpList_append_own _ rfl _ _ 35 rfl (w1.heap.size + 1) 3 i0 (.int .i64 0) 1 8 Try.underlying35 hi hz0 hz1 hz2 rfl (by decide) _ _ _ rfl (hown.alloc _) ⟨wr.heap.size, 0, none⟩ 1 1 [.int .i64 x] rfl rfl (cell_one_new _ _ _) (by simp [Value.oneCell']) (by unfold maxLen; omega) (by omega) (by simp; omega) ?_; intro v' w2 hown' hgrow _; have HL2 := Lib.hid (L1.grow HL.out (by rw [hxl]; exact hown') hgrow (by omega) x1); have yb := Lib.hid (HL.out.boards hgrow); have y9 := (yb.out.cell x.toNat).trans (rowA_get _ _ (by rw [memR_len]; omega)); have f9 := yb.out.frozen x.toNat; clear hown hown' hgrow yb))
        go_roundw
        case rel =>
          refine ⟨k + 1, xk ++ [x], by omega, by go_num, ?_, by rw [List.length_append, hxl]; rfl, HFS, HL2.out⟩
          rw [HG.out]
          try rw [decide_eq_true hx64]
          try rw [decide_eq_false hx64]
          try rfl
        case measure => simp [intOf]; omega
    · have hkm : k = m := by omega
      subst hkm
      obtain rfl : xk = xs := hfk.out.symm.trans HXS.out
      have HL := Lib.hid hL
      have hl3 : xk.length ≤ 300 := by omega
      have hw1 : IntKind.i64.wrap ((s.size : Int) - 1) = (s.size : Int) - 1 := IntWalk.i64_in _ (by omega)
      have htn : ((s.size : Int) - 1).toNat = s.size - 1 := by omega
      clear hL hi hz0 hz1 hz2 HI HY HXS hfk
      have hsplit : (k < n ∧ k = 300) ∨ ¬ k < n := by omega
      rcases hsplit with ⟨hkn, h300⟩ | hkn
      all_goals
        go_wp2_with (first
          | (go_at_call 21; refine (of_own _ _ _ hl3 _ HL.out.own _ _ HOF.out).mono ?_; rintro e w2 ⟨rfl, hb2⟩; have H2 := Lib.hid (L1.two HL.out hb2 F S); have m0 := H2.out.m.cell 0; have m1 := H2.out.m.cell 1; simp at m0 m1; clear hb2)
          | (go_at_call 30; refine (QK.out _).mono ?_; rintro e w' ⟨rfl, rfl⟩)
          | (go_at_call 25; refine (QE.out _).mono ?_; rintro e w3 ⟨rfl, hb3⟩; have H3 := Lib.hid (H2.out.next hb3); clear hb3 m0 m1)
          | (go_at_call 28; refine (QD.out _).mono ?_; rintro e w4 ⟨rfl, hb4⟩; have H4 := Lib.hid (L2.alloc (H3.out.next hb4) (.cells #[.int .u64 (iv F), .int .u64 (iv S)] 24)); have m0 := H4.out.m.cell 0; have m1 := H4.out.m.cell 1; have HD4 := Lib.hid (Blk.new w4 24 #[.int .u64 (iv F), .int .u64 (iv S)]); have d0 := HD4.out.cell 0; have d1 := HD4.out.cell 1; simp at m0 m1 d0 d1; clear hb4 QD)
          | (go_at_call 31; refine (QL.out _).mono ?_; rintro e w' ⟨rfl, rfl⟩)
          | (go_at_call 28; refine (QS.out _).mono ?_; rintro e w5 ⟨rfl, hb5⟩; have H5 := Lib.hid (L2.alloc (H4.out.next hb5) (.cells #[.int .u64 0, .int .u64 0] 24)); have l25 : w2.heap.size < w5.heap.size := Nat.lt_of_lt_of_le H4.out.m.lt hb5.size; clear hb5 m0 m1 d0 d1))
        have hneq : w2.heap.size ≠ w5.heap.size + 1 := by omega
        go_loopw [25] (fun i wq => ∃ j : Nat, j ≤ 203 ∧ i = .int .i64 ((j : Int) - 3) ∧ Hid (L2 w wq w1.heap.size w2.heap.size xk F S) ∧ Hid (Blk wq (w5.heap.size + 1) 3 #[.int .i64 (cntTo F S ((j : Int) - 3) : Nat)])) (fun i _ => 203 - (intOf i + 3).toNat)
        case atStart =>
          refine ⟨0, by omega, rfl, Lib.hid (H5.out.alloc _), Lib.hid ?_⟩
          have q := Blk.new (w5.alloc (.cells #[.int .u64 0, .int .u64 0] 24)) 3 #[.int .i64 0]
          rw [World.size_alloc] at q
          rw [cnt_lo _ _ _ (by omega)]
          exact q
        case round =>
          clear H2 H3 H4 H5 HD4
          obtain ⟨j, hj, rfl, HW, HC⟩ := hrel
          have m0 := HW.out.m.cell 0
          have m1 := HW.out.m.cell 1
          simp at m0 m1
          have y24 := HC.out.cell 0
          have f24 := HC.out.frozen 0
          simp at y24
          obtain ⟨x, hx⟩ : ∃ x : Int, (j : Int) - 3 = x := ⟨_, rfl⟩
          rw [hx] at y24 HC ⊢
          have hx0 : -3 ≤ x := by omega
          obtain ⟨c, hc⟩ : ∃ c, cntTo F S x = c := ⟨_, rfl⟩
          have hcl := cnt_le F S x
          have hcs := cnt_succ F S x
          rw [hc] at y24 HC hcl hcs
          have HX := Lib.hid hx
          have HCS := Lib.hid hcs
          clear hx hcs
          by_cases hlt : x < 200
          · have hcase : (x < 0 ∧ hasB F S x = false) ∨ (128 < x ∧ hasB F S x = false) ∨ (0 ≤ x ∧ x ≤ 128) := by
              by_cases h1 : x < 0
              · exact .inl ⟨h1, by unfold hasB fldB; rw [decide_eq_false (by omega)]; rfl⟩
              · by_cases h2 : x ≤ 128
                · exact .inr (.inr ⟨by omega, h2⟩)
                · exact .inr (.inl ⟨by omega, by unfold hasB fldB; rw [decide_eq_false h2]; simp⟩)
            rcases hcase with ⟨h1, hv⟩ | ⟨h1, hv⟩ | ⟨h0, h1⟩
            · have HV := Lib.hid hv
              clear hv
              go_wp2_with (go_at_call 14; refine (has_any _ _ _ _).mono ?_; rintro e w6 ⟨rfl, hb6⟩; rw [HV.out]; have H6 := Lib.hid (HW.out.next hb6); have C6 := Lib.hid (HC.out.below hb6 HC.out.lt); clear hb6)
              go_roundw
              case rel =>
                have hjx : (j : Int) = x + 3 := by have := HX.out; omega
                refine ⟨j + 1, by omega, by congr 1; omega, H6, ?_⟩
                have e : ((j + 1 : Nat) : Int) - 3 = x + 1 := by have := HX.out; omega
                have e2 : cntTo F S (x + 1) = c := by have := HCS.out; rw [HV.out] at this; simp at this; omega
                rw [e, e2]; exact C6
              case measure => simp [intOf]; omega
            · have HV := Lib.hid hv
              clear hv
              go_wp2_with (go_at_call 14; refine (has_any _ _ _ _).mono ?_; rintro e w6 ⟨rfl, hb6⟩; rw [HV.out]; have H6 := Lib.hid (HW.out.next hb6); have C6 := Lib.hid (HC.out.below hb6 HC.out.lt); clear hb6)
              go_roundw
              case rel =>
                have hjx : (j : Int) = x + 3 := by have := HX.out; omega
                refine ⟨j + 1, by omega, by congr 1; omega, H6, ?_⟩
                have e : ((j + 1 : Nat) : Int) - 3 = x + 1 := by have := HX.out; omega
                have e2 : cntTo F S (x + 1) = c := by have := HCS.out; rw [HV.out] at this; simp at this; omega
                rw [e, e2]; exact C6
              case measure => simp [intOf]; omega
            · have y9 := (HW.out.has.cell x.toNat).trans (rowA_get _ _ (by rw [memR_len]; omega))
              rw [memR_get _ _ (by omega), show ((x.toNat : Nat) : Int) = x by omega, ← HIN.out x] at y9
              have f9 := HW.out.has.frozen x.toNat
              have hxt : ((x.toNat : Nat) : Int) = x := by omega
              have hwc : IntKind.i64.wrap ((c : Int) + 1) = (c : Int) + 1 := IntWalk.i64_in _ (by omega)
              cases hv : hasB F S x
              · rw [hv] at y9
                have HV := Lib.hid hv
                clear hv
                go_wp2_with (go_at_call 14; refine (has_any _ _ _ _).mono ?_; rintro e w6 ⟨rfl, hb6⟩; rw [HV.out]; have H6 := Lib.hid (HW.out.next hb6); have C6 := Lib.hid (HC.out.below hb6 HC.out.lt); clear hb6)
                go_roundw
                case rel =>
                  have hjx : (j : Int) = x + 3 := by have := HX.out; omega
                  refine ⟨j + 1, by omega, by congr 1; omega, H6, ?_⟩
                  have e : ((j + 1 : Nat) : Int) - 3 = x + 1 := by have := HX.out; omega
                  have e2 : cntTo F S (x + 1) = c := by have := HCS.out; rw [HV.out] at this; simp at this; omega
                  rw [e, e2]; exact C6
                case measure => simp [intOf]; omega
              · rw [hv] at y9
                have HV := Lib.hid hv
                clear hv
                go_wp2_with (go_at_call 14; refine (has_any _ _ _ _).mono ?_; rintro e w6 ⟨rfl, hb6⟩; rw [HV.out]; have H6 := Lib.hid ((HW.out.set_ (i := 0) (by omega) (.int .i64 ((c : Int) + 1))).next hb6); have C6 := Lib.hid ((HC.out.set_ 0 (.int .i64 ((c : Int) + 1))).below hb6 (HC.out.set_ 0 _).lt); clear hb6)
                go_roundw
                case rel =>
                  have hjx : (j : Int) = x + 3 := by have := HX.out; omega
                  refine ⟨j + 1, by omega, by congr 1; omega, H6, ?_⟩
                  have e : ((j + 1 : Nat) : Int) - 3 = x + 1 := by have := HX.out; omega
                  have e2 : (cntTo F S (x + 1) : Int) = c + 1 := by have := HCS.out; rw [HV.out] at this; simpa using this
                  rw [e, e2]; exact C6
                case measure => simp [intOf]; omega
          · have hx200 : x = 200 := by have := HX.out; omega
            subst hx200
            have hcN : c = (nums F S).length := by rw [← hc]; exact cnt_hi F S 200 (by omega)
            have HCN := Lib.hid hcN
            have HWb := HW.out.bel
            have hwsz := HWb.size
            have hgl := HC.out.lt
            have hg9 := HW.out.has.lt
            have hgm := HW.out.m.lt
            have hg0 := HW.out.res.lt
            have hlo := HW.out.lo
            have hmid := HW.out.mid
            clear hcN hc hcl HX HCS
            have h1 : 1 ≤ 5 := by omega
            go_wp2_with (go_at_call 32; refine (numbers_any F S _).mono ?_; rintro e w7 ⟨rfl, rfl⟩)
            have e0 : ((wr.alloc (.cells #[.int .i64 0] 3)).alloc (.cells #[.int .u64 (iv F), .int .u64 (iv S)] 24)).cell? ⟨wr.heap.size + 1, 0, none⟩ = some (.int .u64 (iv F)) := (Blk.new2 wr _ 24 _).cell 0
            have e1 : ((wr.alloc (.cells #[.int .i64 0] 3)).alloc (.cells #[.int .u64 (iv F), .int .u64 (iv S)] 24)).cell? ⟨wr.heap.size + 1, 1, none⟩ = some (.int .u64 (iv S)) := (Blk.new2 wr _ 24 _).cell 1
            refine (wpIn_wide (n := 5)).1 ?_
            apply wpIn_rangeFunc_ownF (F := Fence.wide) rfl h1 (gf := 54) (lb := #[.pointer (some ⟨wr.heap.size + 1, 0, none⟩)]) rfl trivial (enters_of Try.func54 (by kernel_rfl) rfl)
              (nums_stops F S 4 (by omega) (wr.heap.size + 1) _ (by simp) e0 e1) KB.trans (fun W l o o' hl ho hc hw => KB.put W l o o' ho (by simp at hl; omega)) (Below.refl _ _) (fun _ => rfl)
              (fun pre W => RI w w1.heap.size w2.heap.size (w5.heap.size + 1) wr.heap.size xk F S c (vals pre) W ∧ Below w.heap.size w W)
              (fun code pre W => code = .ret ∧ ¬ vals pre <+: nums F S)
              (OwnFrom.and (Own.from (fun st A B row hs hg hr => hs.kept hg hr) _) (ownFrom_below (Nat.le_refl _) (by simp; omega)))
              (fun code => Own.from (fun st A B row hs hg hr => hs) _)
              ⟨⟨(HW.out.res.alloc _).alloc _, (Blk.new wr 3 _).alloc _, by rw [show vals ([] : List (Fld F S)) = [] from rfl]; simpa using (HC.out.alloc _).alloc _, (HW.out.has.alloc _).alloc _, (HW.out.m.alloc _).alloc _⟩, (HWb.alloc hwsz _).alloc (by simp; omega) _⟩
            case hassign =>
              intro l x W K hK
              dsimp only [encN] at hK ⊢
              gi_wp2
              exact hK
            case hbody =>
              rintro l pre x W ⟨HR, hB⟩ hlen
              have hpl : pre.length < c := by rw [HCN.out]; exact hlen
              have hxf : fldB x.1 = true := by
                have := x.2
                unfold hasB at this
                rw [Bool.and_eq_true] at this
                exact this.1
              obtain ⟨x0, x1⟩ := fld_bd hxf
              have y27 := HR.last.cell 0
              have f27 := HR.last.frozen 0
              have y24 := HR.many.cell 0
              have f24 := HR.many.frozen 0
              have y6 := HR.res.cell 0
              have f6 := HR.res.frozen 0
              have y9 := (HR.has.cell x.1.toNat).trans (rowA_get _ _ (by rw [memR_len]; omega))
              rw [memR_get _ _ (by omega), show ((x.1.toNat : Nat) : Int) = x.1 by omega, ← HIN.out x.1, x.2] at y9
              have f9 := HR.has.frozen x.1.toNat
              have hxt : ((x.1.toNat : Nat) : Int) = x.1 := by omega
              simp at y27 y24 y6
              rw [vals_len] at y24
              have hwm : IntKind.i64.wrap ((c : Int) - pre.length - 1) = (c : Int) - pre.length - 1 := IntWalk.i64_in _ (by have := nums_le F S; have := HCN.out; omega)
              obtain ⟨la, hla⟩ : ∃ la, lastOf (vals pre) = la := ⟨_, rfl⟩
              rw [hla] at y27
              have HLA := Lib.hid hla
              have HRR := Lib.hid HR
              obtain ⟨z, hz2, hz⟩ : ∃ z, z = x ∧ z.1 = x.1 := ⟨x, rfl, rfl⟩
              have HZ := Lib.hid hz2
              clear hla HR hxf hz2 e0 e1
              by_cases hle : x.1 ≤ la
              · gi_wp2
                refine ⟨KeepsOthers.setCell _ _ _, rfl, fun h => ?_⟩
                rw [vals_snoc] at h
                have := last_lt h
                rw [HLA.out] at this
                omega
              · gi_wp2
                refine ⟨(KeepsOthers.setCell _ _ _).trans (KeepsOthers.setCell _ _ _), (KB.set_ _ _ _ (by simp)).trans (KB.set_ _ _ _ (by simp; omega)), ⟨?_, ?_, ?_, ?_, ?_⟩, (hB.setCell (p := ⟨wr.heap.size, 0, none⟩) (by simp; omega) _).setCell (p := ⟨w5.heap.size + 1, 0, none⟩) (by simp; omega) _⟩
                · exact (HRR.out.res.far_ (by omega) _).far_ (by omega) _
                · rw [vals_snoc, lastOf_snoc]
                  exact (HRR.out.last.set_ 0 _).far_ (by omega) _
                · rw [vals_snoc, List.length_append, vals_len]
                  have q := (HRR.out.many.far_ (b := wr.heap.size) (i := 0) (by omega) (.int .i64 x.1)).set_ 0 (.int .i64 ((c : Int) - pre.length - 1))
                  rw [show (c : Int) - ((pre.length + [x.1].length : Nat) : Int) = (c : Int) - pre.length - 1 by simp; omega]
                  exact q
                · exact (HRR.out.has.far_ (by omega) _).far_ (by omega) _
                · exact (HRR.out.m.far_ (by omega) _).far_ (by omega) _
            case hdone =>
              rintro D ys W hD hS ⟨HR, hB⟩ hK
              have hl : (c : Int) - (vals ys).length = 0 := by rw [hS, HCN.out]; omega
              have y24 := HR.many.cell 0
              have y6 := HR.res.cell 0
              have m0 := HR.m.cell 0
              have m1 := HR.m.cell 1
              simp at y24 y6 m0 m1
              rw [hl] at y24
              have HRR := Lib.hid HR
              have hDD : wr.heap.size < D := by simp at hD; omega
              have hDl : D < W.heap.size := (Array.getElem?_eq_some_iff.1 hK).1
              clear HR hl hD e0 e1
              go_wp2_with (go_at_call 19; refine (QR.out _).mono ?_; rintro e w8 ⟨rfl, hb8⟩; have hr8 := HRR.out.res.below hb8 HRR.out.res.lt; have y8 := hr8.cell 0; have f8 := hr8.frozen 0; have hK8 := (hb8.block D hDl).trans hK; have hB8 := hB.trans (hb8.mono hB.size); simp at y8; clear hb8)
              have hK' := (KeepsOthers.setCell w8 ⟨w.heap.size, 0, none⟩ (.bool true)).same D _ hK8 rfl
              refine ⟨by simp, .inl ⟨_, _, rfl, run_takeDeferred hK', ?_⟩⟩
              have hc5 := cell_kept (World.cell?_setCell_same' w8 ⟨w.heap.size, 0, none⟩ (.bool true) (by rw [y8]; rfl)) (grownBy_putObj' _ D (.deferred none)) (fun r e => by cases e; exact ⟨_, hK', rfl⟩)
              refine ⟨.bool true, ?_, rfl, (hB8.setCell (p := ⟨w.heap.size, 0, none⟩) (by simp) _).trans (belowK_b (w := w) (Nat.le_refl _) _ D _ _ (by omega) hK' rfl rfl)⟩
              simp [results, Try.f8, go_sem, hc5]
            case hstop =>
              rintro D code pre W hD hpre ⟨rfl, h⟩ hK
              exact absurd hpre h
end Go.Proofs.Ytieloocmkgficaa
