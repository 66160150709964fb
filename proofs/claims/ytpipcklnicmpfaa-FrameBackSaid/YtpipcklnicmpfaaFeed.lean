/-
  The walk of Feed: what holds at its labels; a pass from the header on.
-/
import Derived.Test.YtpipcklnicmpfaaTold
import Derived.Deep.RegionLaw
import Derived.Deep.RegionHeld3
namespace Go.Proofs.Ytpipcklnicmpfaa
open Go.RowKit
set_option linter.unusedVariables false
set_option linter.unusedSimpArgs false
section
variable {P : Program} {a : Act} {w : World} {Q : Exit → Act → World → Prop}
def two (J0 J1 : Act → World → Prop) (Q : Exit → Act → World → Prop) : Exit → Act → World → Prop
  | .goto 0, a, w => J0 a w
  | .goto 1, a, w => J1 a w
  | .goto _, _, _ => False
  | e, a, w => Q e a w
@[go_sem] theorem two_0 {J0 J1 : Act → World → Prop} : two J0 J1 Q (.goto 0) a w = J0 a w := rfl
@[go_sem] theorem two_1 {J0 J1 : Act → World → Prop} : two J0 J1 Q (.goto 1) a w = J1 a w := rfl
@[go_sem] theorem two_ret {J0 J1 : Act → World → Prop} : two J0 J1 Q .ret a w = Q .ret a w := rfl
@[go_sem] theorem two_normal {J0 J1 : Act → World → Prop} : two J0 J1 Q .normal a w = Q .normal a w := rfl
theorem two_mono {J0 J1 J0' J1' : Act → World → Prop} (h0 : ∀ a w, J0 a w → J0' a w) (h1 : ∀ a w, J1 a w → J1' a w) : ∀ e a w, two J0 J1 Q e a w → two J0' J1' Q e a w
  | .goto 0, a, w, hh => h0 a w hh
  | .goto 1, a, w, hh => h1 a w hh
  | .goto (_ + 2), _, _, hh => hh
  | .normal, _, _, hh => hh
  | .exit _, _, _, hh => hh
  | .ret, _, _, hh => hh
  | .panic _, _, _, hh => hh
  | .outgrown, _, _, hh => hh
/-- A scope with two labels: 1, to which the run comes back; 0, from which it goes to its end. -/
theorem wp_scope_two {c r0 r1 : Code} (J0 J1 : Act → World → Prop) (μ : Act → World → Nat) (h0 : findLabel c 0 = some r0) (h1 : findLabel c 1 = some r1)
    (first : c.wp P (two J0 J1 Q) a w)
    (pass0 : ∀ a w, J0 a w → r0.wp P (two (fun _ _ => False) (fun _ _ => False) Q) a w)
    (pass1 : ∀ a w, J1 a w → r1.wp P (two J0 (fun a' w' => J1 a' w' ∧ μ a' w' < μ a w) Q) a w) : (Code.scope c).wp P Q a w := by
  refine wp_scope_gotos (fun l a w => (l = 0 ∧ J0 a w) ∨ (l = 1 ∧ J1 a w)) (fun l a w => if l = 0 then 0 else μ a w + 1) (fun l => if l = 0 then r0 else r1) ?_ ?_ ?_
  · rintro l a w (⟨rfl, _⟩ | ⟨rfl, _⟩)
    · exact h0
    · exact h1
  · refine wp_mono first ?_
    rintro (_ | _ | ⟨l⟩ | _ | _ | _) a w hh
    case goto =>
      match l, hh with
      | 0, hh => exact .inl ⟨rfl, hh⟩
      | 1, hh => exact .inr ⟨rfl, hh⟩
      | _ + 2, hh => exact hh.elim
    all_goals exact hh
  · rintro l a w (⟨rfl, hj⟩ | ⟨rfl, hj⟩)
    · refine wp_mono (pass0 a w hj) ?_
      rintro (_ | _ | ⟨l⟩ | _ | _ | _) a w hh
      case goto =>
        match l, hh with
        | 0, hh => exact hh.elim
        | 1, hh => exact hh.elim
        | _ + 2, hh => exact hh.elim
      all_goals exact hh
    · refine wp_mono (pass1 a w hj) ?_
      rintro (_ | _ | ⟨l⟩ | _ | _ | _) a' w' hh
      case goto =>
        match l, hh with
        | 0, hh => exact ⟨.inl ⟨rfl, hh⟩, by simp⟩
        | 1, hh => exact ⟨.inr ⟨rfl, hh.1⟩, by simp; exact hh.2⟩
        | _ + 2, hh => exact hh.elim
      all_goals exact hh
end

/-- The scope behind a function's first region. -/
def scopeOf : Code → Code
  | .seq _ (.scope c) => c
  | _ => .skip
def strs (ms : List Bys) : List Value := ms.map fun x => Value.string (bstr x)
/-- What holds in the midst of a Feed that came to a Stream without a fault. -/
structure FI (w W : World) (g B : Nat) (r : Option Nat) (h m : Int) (L : Bys) (i0 at_ : Nat) (ms : List Bys) (i : Nat) (out v : Value) : Prop where
  hat : at_ ≤ L.length
  cutE : cut h m L = (cut h m (L.drop at_)).after ms i
  blk : Blk W g 70 #[.int .i64 h, .int .i64 m, v, .int .i64 0, .int .i64 ((i0 + i : Nat) : Int)]
  row : W.ownsRow B 5 1 v L.length (bcells L)
  ne : v.ownBlock ≠ some g
  hv : v.ownBlock = r ∨ ∀ j, v.ownBlock = some j → w.heap.size ≤ j
  own : W.ownsRow w.heap.size 9 1 out ms.length (strs ms)
  fr : Fr w W g r
  hB : B ≤ g
  hg : g < w.heap.size
/-- The end of a Feed. -/
structure Fin_ (w W : World) (g B : Nat) (r : Option Nat) (h m : Int) (ms : List Bys) (e : Int) (s : St) (out v : Value) : Prop where
  own : W.ownsRow w.heap.size 9 1 out ms.length (strs ms)
  strm : Strm B W g v h m s
  hv : v.ownBlock = r ∨ ∀ j, v.ownBlock = some j → w.heap.size ≤ j
  fr : Fr w W g r

/-- What is known of a frame at a label. -/
def FrameIs (g H at_ : Nat) (out : Value) (a : Act) : Prop :=
  a.tmps.size = 153 ∧ a.tmps.getD 0 undef = .pointer (some ⟨g, 0, none⟩) ∧ a.tmps.getD 6 undef = out ∧ a.tmps.getD 7 undef = .int .i64 (at_ : Int) ∧ a.tmps.getD 10 undef = .int .i64 (H : Int) ∧ a.defers = []
theorem arr_range (t : Array Value) (n : Nat) (h : t.size = n) : t = ((List.range n).map fun k => t.getD k undef).toArray := by
  subst h
  apply Array.ext
  · simp
  · intro i h1 h2
    simp [h1]
theorem range153 (u : Nat → Value) : ((List.range 153).map u).toArray = #[u 0, u 1, u 2, u 3, u 4, u 5, u 6, u 7, u 8, u 9, u 10, u 11, u 12, u 13, u 14, u 15, u 16, u 17, u 18, u 19, u 20, u 21, u 22, u 23, u 24, u 25, u 26, u 27, u 28, u 29, u 30, u 31, u 32, u 33, u 34, u 35, u 36, u 37, u 38, u 39, u 40, u 41, u 42, u 43, u 44, u 45, u 46, u 47, u 48, u 49, u 50, u 51, u 52, u 53, u 54, u 55, u 56, u 57, u 58, u 59, u 60, u 61, u 62, u 63, u 64, u 65, u 66, u 67, u 68, u 69, u 70, u 71, u 72, u 73, u 74, u 75, u 76, u 77, u 78, u 79, u 80, u 81, u 82, u 83, u 84, u 85, u 86, u 87, u 88, u 89, u 90, u 91, u 92, u 93, u 94, u 95, u 96, u 97, u 98, u 99, u 100, u 101, u 102, u 103, u 104, u 105, u 106, u 107, u 108, u 109, u 110, u 111, u 112, u 113, u 114, u 115, u 116, u 117, u 118, u 119, u 120, u 121, u 122, u 123, u 124, u 125, u 126, u 127, u 128, u 129, u 130, u 131, u 132, u 133, u 134, u 135, u 136, u 137, u 138, u 139, u 140, u 141, u 142, u 143, u 144, u 145, u 146, u 147, u 148, u 149, u 150, u 151, u 152] := by
  rfl
theorem frame_of {g H at_ : Nat} {out : Value} {a : Act} (h : FrameIs g H at_ out a) : ∃ u : Nat → Value, a = { tmps := #[.pointer (some ⟨g, 0, none⟩), u 1, u 2, u 3, u 4, u 5, out, .int .i64 (at_ : Int), u 8, u 9, .int .i64 (H : Int), u 11, u 12, u 13, u 14, u 15, u 16, u 17, u 18, u 19, u 20, u 21, u 22, u 23, u 24, u 25, u 26, u 27, u 28, u 29, u 30, u 31, u 32, u 33, u 34, u 35, u 36, u 37, u 38, u 39, u 40, u 41, u 42, u 43, u 44, u 45, u 46, u 47, u 48, u 49, u 50, u 51, u 52, u 53, u 54, u 55, u 56, u 57, u 58, u 59, u 60, u 61, u 62, u 63, u 64, u 65, u 66, u 67, u 68, u 69, u 70, u 71, u 72, u 73, u 74, u 75, u 76, u 77, u 78, u 79, u 80, u 81, u 82, u 83, u 84, u 85, u 86, u 87, u 88, u 89, u 90, u 91, u 92, u 93, u 94, u 95, u 96, u 97, u 98, u 99, u 100, u 101, u 102, u 103, u 104, u 105, u 106, u 107, u 108, u 109, u 110, u 111, u 112, u 113, u 114, u 115, u 116, u 117, u 118, u 119, u 120, u 121, u 122, u 123, u 124, u 125, u 126, u 127, u 128, u 129, u 130, u 131, u 132, u 133, u 134, u 135, u 136, u 137, u 138, u 139, u 140, u 141, u 142, u 143, u 144, u 145, u 146, u 147, u 148, u 149, u 150, u 151, u 152], defers := [] } := by
  obtain ⟨hs, h0, h6, h7, h10, hd⟩ := h
  refine ⟨fun k => a.tmps.getD k undef, ?_⟩
  rw [← h0, ← h6, ← h7, ← h10]
  obtain ⟨t, d⟩ := a
  simp only at hs hd ⊢
  subst hd
  congr 1
  exact (arr_range t 153 hs).trans (range153 _)
def J1 (w : World) (g B : Nat) (r : Option Nat) (h m : Int) (L : Bys) (i0 H : Nat) : Act → World → Prop := fun a W =>
  ∃ (at_ : Nat) (ms : List Bys) (i : Nat) (out v : Value), FI w W g B r h m L i0 at_ ms i out v ∧ FrameIs g H at_ out a
def J0 (w : World) (g B : Nat) (r : Option Nat) (h m : Int) (L : Bys) (i0 H : Nat) : Act → World → Prop := fun a W =>
  ∃ (at_ : Nat) (ms : List Bys) (i : Nat) (out v : Value), FI w W g B r h m L i0 at_ ms i out v ∧ cut h m (L.drop at_) = ⟨[], 0, L.drop at_, 0⟩ ∧ FrameIs g H at_ out a
def μ1 (L : Bys) : Act → World → Nat := fun a _ => L.length - (intOf (a.tmps.getD 7 undef)).toNat

theorem FI.form {w W : World} {g B : Nat} {r : Option Nat} {h m : Int} {L : Bys} {i0 at_ : Nat} {ms : List Bys} {i : Nat} {out v : Value} (hf : FI w W g B r h m L i0 at_ ms i out v) :
    ∃ A cap, v = .slice A L.length cap ∧ L.length ≤ cap ∧ cap ≤ maxLen ∧ (0 < L.length → ∃ k, A = some ⟨k, 0, none⟩ ∧ k < W.heap.size ∧ k ≠ g ∧ ∀ i, i < L.length → W.cell? ⟨k, i, none⟩ = some (.int .u8 (bn (L.getD i 0)))) := by
  rcases hf.row.2 with ⟨hv, h0⟩ | ⟨k, cap, cur, hv, _, hk, hnc, hcm, hcs, htk⟩
  · exact ⟨none, 0, by rw [hv, h0], by omega, by simp [maxLen], fun hp => absurd hp (by omega)⟩
  · refine ⟨_, cap, hv, hnc, hcm, fun _ => ⟨k, rfl, (Array.getElem?_eq_some_iff.1 hk).1, fun e => hf.ne (by rw [hv, e]; rfl), fun i hi => ?_⟩⟩
    have := hf.row.cells (g := k) (by rw [hv]; rfl) i (.int .u8 (bn (L.getD i 0))) (by
      unfold bcells
      rw [List.getElem?_map, List.getElem?_eq_getElem hi, List.getD, List.getElem?_eq_getElem hi]; rfl)
    rw [Addr.add_lit, Nat.zero_add] at this
    exact this

section
variable {P : Program}
theorem grown_setRow (w : World) (g : Nat) (c : Array Value) : w.grownBy (w.setRow g c) (some g) :=
  ⟨rfl, rfl, rfl, by simp [World.setRow], fun k _ hne => setRow_other w g k c (fun e => hne (by rw [e]))⟩
/-- copy within a row that is known whole: what turned is that row. -/
theorem step_copy_fr {ops : Array Oper} {o : Oper} {a : Act} {w : World} {K : Act → World → Prop} {Q : Exit → Act → World → Prop} {E : Prop} (hgd : o.guard = none) (d s : Operand) (dT sT : TypeId)
    (ho : o.op = .call { callee := .builtin .copy, args := #[d, s], argTypes := #[dT, sT] }) (elem : TypeId) (hu : P.underlying dT = some (.slice elem)) (hsz : (P.info? elem).map (·.size) = some 1)
    (dp sp : Option Addr) (dLen dCap sLen sCap : Nat) (hd : a.eval d = .slice dp dLen dCap) (hs : a.eval s = .slice sp sLen sCap)
    (g off : Nat) (cur : List Value) (t : TypeId) (cs : List Value) (hg : 0 < cs.length → w.heap[g]? = some (.cells cur.toArray t (0, 0))) (hn : cs.length = Nat.min sLen dLen)
    (hpos : 0 < cs.length → dp = some ⟨g, off, none⟩ ∧ ∃ ad, sp = some ad ∧ ∀ j v, cs[j]? = some v → w.cell? (ad.add j) = some v)
    (hfit : off + cs.length ≤ cur.length) (h1 : ∀ v ∈ cs, v.oneCell' = true)
    (h : ∀ w', (0 < cs.length → w'.heap[g]? = some (.cells (splice cur off cs).toArray t (0, 0))) → (cs.length = 0 → w' = w) → w.grownBy w' (some g) → K (a.put o.dst (goInt cs.length)) w') :
    if Region.wanted o (yielded ops a.tmps) = true then Oper.wp P o a w K Q else E := by
  have hw : Region.wanted o (yielded ops a.tmps) = true := by simp [Region.wanted, hgd]
  rw [if_pos hw]
  by_cases h0 : cs.length = 0
  · obtain rfl : cs = [] := List.eq_nil_of_length_eq_zero h0
    have hrun := run_copy_none (P := P) w dT sT o.type elem dp sp dLen dCap sLen sCap hu hsz (by simpa using hn.symm)
    unfold Oper.wp
    simp [execOp, ho, resolve, invoke, builtin, hd, hs, hrun, Result.andThen]
    exact h w (fun hh => absurd hh (by simp)) (fun _ => rfl) (World.grownBy.refl w _)
  · obtain ⟨rfl, ad, rfl, hsrc⟩ := hpos (by omega)
    have hrun := run_copy_row (P := P) w dT sT o.type elem g off dLen dCap ad sLen sCap cur.toArray t cs hu hsz (hg (by omega)) hn hsrc (by simpa using hfit) h1
    unfold Oper.wp
    simp [execOp, ho, resolve, invoke, builtin, hd, hs, hrun, Result.andThen]
    refine h _ (fun _ => ?_) (fun hh => absurd hh h0) (grown_setRow _ _ _)
    simpa [splice] using setRow_heap w g _ _ t _ (hg (by omega))
end

theorem own_apart {W : World} {B B' e e' s s' n n' : Nat} {v v' : Value} {xs xs' : List Value} (h : W.ownsRow B e s v n xs) (h' : W.ownsRow B' e' s' v' n' xs') (hne : e ≠ e') : v.ownBlock = none ∨ v.ownBlock ≠ v'.ownBlock := by
  rcases h.2 with ⟨rfl, _⟩ | ⟨g, cap, cur, rfl, _, hg, _⟩
  · exact .inl rfl
  · right
    rcases h'.2 with ⟨rfl, _⟩ | ⟨g', cap', cur', rfl, _, hg', _⟩
    · simp [Value.ownBlock]
    · intro e
      have e2 : g = g' := by simpa [Value.ownBlock] using e
      subst e2
      rw [hg] at hg'
      injection hg' with hg'
      injection hg' with _ h3 _
      exact hne h3
theorem own_ge {W : World} {B e s n b : Nat} {v : Value} {xs : List Value} (h : W.ownsRow B e s v n xs) (hb : b < B) : v.ownBlock ≠ some b := fun e => by have := (h.lt b e).1; omega
section
variable {w W W' : World} {g B : Nat} {r : Option Nat} {h m : Int} {L : Bys} {i0 at_ : Nat} {ms : List Bys} {i : Nat} {out v : Value}
theorem fin_wrong (hf : FI w W g B r h m L i0 at_ ms i out v) {e : Int} (hc : cut h m (L.drop at_) = ⟨[], 0, [], e⟩) (hb : Blk W' g 70 #[.int .i64 h, .int .i64 m, .slice none 0 0, .int .i64 e, .int .i64 ((i0 + i : Nat) : Int)]) (hfr : Fr W W' g none) :
    Fin_ w W' g B r h m (cut h m L).ms (cut h m L).err ⟨(cut h m L).rest, (cut h m L).err, i0 + (cut h m L).idle⟩ out (.slice none 0 0) := by
  have hE := hf.cutE
  rw [hc] at hE
  simp only [Cut.after, List.append_nil, Nat.add_zero] at hE
  rw [hE]
  refine ⟨hfr.row hf.own (own_ge hf.own hf.hg) (by cases out.ownBlock <;> simp), ⟨hb, World.ownsRow_nil _ _ _ _, by simp [Value.ownBlock], hf.hB⟩, .inr (by simp [Value.ownBlock]), hf.fr.trans hfr (.inr (by simp))⟩
theorem FI.drewN (hf : FI w W g B r h m L i0 at_ ms i out v) (n : Nat) : FI w (W.drewN n) g B r h m L i0 at_ ms i out v :=
  ⟨hf.hat, hf.cutE, hf.blk.drewN n, hf.row, hf.ne, hf.hv, hf.own, hf.fr.drewN n, hf.hB, hf.hg⟩
theorem FI.idled (hf : FI w W g B r h m L i0 at_ ms i out v) {k : Nat} (hk : at_ + k ≤ L.length) (hc : cut h m (L.drop at_) = (cut h m (L.drop (at_ + k))).after [] 1) :
    FI w (W.setCell ⟨g, 4, none⟩ (.int .i64 ((i0 + (i + 1) : Nat) : Int))) g B r h m L i0 (at_ + k) ms (i + 1) out v := by
  have hF : Fr W (W.setCell ⟨g, 4, none⟩ (.int .i64 ((i0 + (i + 1) : Nat) : Int))) g none := (Fr.refl W g none).set_ (p := ⟨g, 4, none⟩) (.inl rfl) _
  refine ⟨hk, ?_, hf.blk.set4 _, hF.row hf.row hf.ne (by cases v.ownBlock <;> simp), hf.ne, hf.hv, hF.row hf.own (own_ge hf.own hf.hg) (by cases out.ownBlock <;> simp), hf.fr.trans hF (.inr (by simp)), hf.hB, hf.hg⟩
  rw [hf.cutE, hc, Cut.after_after, List.append_nil]
theorem FI.told_ (hf : FI w W g B r h m L i0 at_ ms i out v) {k : Nat} {x : Bys} {out' : Value} {o : Obj} (hk : at_ + k ≤ L.length) (hc : cut h m (L.drop at_) = (cut h m (L.drop (at_ + k))).after [x] 0)
    (hg : (W.alloc o).grownBy W' out.ownBlock) (ho : W'.ownsRow w.heap.size 9 1 out' (ms.length + 1) (strs ms ++ [.string (bstr x)])) : FI w W' g B r h m L i0 (at_ + k) (ms ++ [x]) i out' v := by
  have hF : Fr W W' g out.ownBlock := by
    have h1 : Fr W (W.alloc o) g out.ownBlock := (Fr.refl W g _).alloc o
    exact h1.trans (Fr.of_grown hg (.inl rfl)) (.inl rfl)
  have hne := own_ge hf.own hf.hg
  refine ⟨hk, ?_, (hf.blk.alloc o).grown hg (fun e => hne e.symm), hF.row hf.row hf.ne (own_apart hf.row hf.own (by decide)), hf.ne, hf.hv, ?_, hf.fr.trans hF (.inr (fun j e => (hf.own.lt j e).1)), hf.hB, hf.hg⟩
  · rw [hf.cutE, hc, Cut.after_after, Nat.add_zero]
  · rw [List.length_append, List.length_singleton]
    have e : strs (ms ++ [x]) = strs ms ++ [.string (bstr x)] := by simp [strs]
    rw [e]; exact ho
end
theorem fin_done {w W W' : World} {g B : Nat} {r : Option Nat} {h m : Int} {L : Bys} {i0 at_ : Nat} {ms : List Bys} {i : Nat} {out v v' : Value} (hf : FI w W g B r h m L i0 at_ ms i out v) (hc : cut h m (L.drop at_) = ⟨[], 0, L.drop at_, 0⟩)
    (hb : Blk W' g 70 #[.int .i64 h, .int .i64 m, v', .int .i64 0, .int .i64 ((i0 + i : Nat) : Int)]) (ho : W'.ownsRow B 5 1 v' (L.length - at_) (bcells (L.drop at_))) (hv : v'.ownBlock = v.ownBlock) (hfr : Fr W W' g v.ownBlock) :
    Fin_ w W' g B r h m (cut h m L).ms (cut h m L).err ⟨(cut h m L).rest, (cut h m L).err, i0 + (cut h m L).idle⟩ out v' := by
  have hE := hf.cutE
  rw [hc] at hE
  simp only [Cut.after, List.append_nil, Nat.add_zero] at hE
  rw [hE]
  refine ⟨hfr.row hf.own (own_ge hf.own hf.hg) (own_apart hf.own hf.row (by decide)), ⟨hb, by simpa using ho, by rw [hv]; exact hf.ne, hf.hB⟩, by rw [hv]; exact hf.hv, hf.fr.trans hfr hf.hv⟩
theorem own_cut {W : World} {B k cap left : Nat} {cur : List Value} {xs : List Value} (hk : W.heap[k]? = some (.cells cur.toArray 5 (0, 0))) (hB : B ≤ k) (hl : xs.length = left) (hle : left ≤ cap) (hm : cap ≤ maxLen) (hc : cur.length = cap) (ht : cur.take left = xs) :
    W.ownsRow B 5 1 (.slice (some ⟨k, 0, none⟩) left cap) left xs :=
  ⟨by rw [hl, Nat.mul_one], .inr ⟨k, cap, cur.toArray, rfl, hB, hk, hle, hm, by simp [hc], by simpa using ht⟩⟩
theorem bcells_one (l : Bys) : ∀ v ∈ bcells l, v.oneCell' = true := by
  intro v hv
  unfold bcells at hv
  rw [List.mem_map] at hv
  obtain ⟨b, _, rfl⟩ := hv
  rfl
theorem splice_take {α : Type} (cur cs : List α) (h : cs.length ≤ cur.length) : (splice cur 0 cs).take cs.length = cs := by
  simp [splice]
theorem u8size : (Try.prog.info? 5).map (·.size) = some 1 := by kernel_rfl
theorem Try.info9 : (Try.prog.info? 9).map (fun i => (i.zero, i.size, i.bytes)) = some (some (.string ByteArray.empty), 1, 16) := by kernel_rfl
theorem conv_at {W : World} {k at_ q c : Nat} {L : Bys} (hk : ∀ i, i < L.length → W.cell? ⟨k, i, none⟩ = some (.int .u8 (bn (L.getD i 0)))) (hq : at_ + q ≤ L.length) :
    (convert 60 9 (.slice (some ⟨k, at_, none⟩) q c)).run Try.prog W = .ok (.string (bstr ((L.drop at_).take q))) W := by
  have hl : ((L.drop at_).take q).length = q := by rw [List.length_take, List.length_drop]; omega
  rw [← strOfNums_bys]
  refine run_convert_bytes_arg (P := Try.prog) W 60 5 Try.underlying60 Try.underlying5 k at_ q c _ (by rw [List.length_map]; exact hl) (fun i hi => ?_) 9 Try.underlying9
  rw [hk (at_ + i) (by omega)]
  congr 2
  rw [List.getD, List.getD, List.getElem?_map, List.getElem?_take_of_lt hi, List.getElem?_drop, List.getElem?_eq_getElem (by omega)]
  rfl

end Go.Proofs.Ytpipcklnicmpfaa
