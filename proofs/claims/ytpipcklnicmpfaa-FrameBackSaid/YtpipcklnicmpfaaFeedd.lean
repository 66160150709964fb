/-
  Feed: a pass from a label on (pass_done_nil, pass_done_cut, pass_done_all).
-/
import Derived.Test.YtpipcklnicmpfaaFeed
namespace Go.Proofs.Ytpipcklnicmpfaa
open Go.RowKit
set_option linter.unusedVariables false
set_option linter.unusedSimpArgs false
set_option maxRecDepth 100000 in
set_option maxHeartbeats 2000000 in
theorem pass_done_nil {w W : World} {g B : Nat} {r : Option Nat} {h m : Int} {L : Bys} {i0 H at_ : Nat} {ms : List Bys} {i : Nat} {out v : Value} (hf : FI w W g B r h m L i0 at_ ms i out v) (hH : hsz h = H) (hL : L.length ≤ 1000000000) (HI : Hid ((i0 : Int) + (i : Int) ≤ 1000000000000))
    (hv : v = .slice none 0 0) (hc0 : cut h m (L.drop at_) = ⟨[], 0, L.drop at_, 0⟩) (Q : Exit → Act → World → Prop) (HQ : Hid (∀ a W' out' v' e, a.tmps.getD 4 undef = out' → a.tmps.getD 5 undef = .int .i64 e → a.defers = [] → Fin_ w W' g B r h m (cut h m L).ms (cut h m L).err ⟨(cut h m L).rest, (cut h m L).err, i0 + (cut h m L).idle⟩ out' v' → e = (cut h m L).err → Q .ret a W')) (u1 u2 u3 u4 u5 u8 u9 u11 u12 u13 u14 u15 u16 u17 u18 u19 u20 u21 u22 u23 u24 u25 u26 u27 u28 u29 u30 u31 u32 u33 u34 u35 u36 u37 u38 u39 u40 u41 u42 u43 u44 u45 u46 u47 u48 u49 u50 u51 u52 u53 u54 u55 u56 u57 u58 u59 u60 u61 u62 u63 u64 u65 u66 u67 u68 u69 u70 u71 u72 u73 u74 u75 u76 u77 u78 u79 u80 u81 u82 u83 u84 u85 u86 u87 u88 u89 u90 u91 u92 u93 u94 u95 u96 u97 u98 u99 u100 u101 u102 u103 u104 u105 u106 u107 u108 u109 u110 u111 u112 u113 u114 u115 u116 u117 u118 u119 u120 u121 u122 u123 u124 u125 u126 u127 u128 u129 u130 u131 u132 u133 u134 u135 u136 u137 u138 u139 u140 u141 u142 u143 u144 u145 u146 u147 u148 u149 u150 u151 u152 : Value) :
    ∃ r0, findLabel (scopeOf (Try.f26.body.getD .skip)) 0 = some r0 ∧ r0.wp Try.prog (two (fun _ _ => False) (fun _ _ => False) Q) { tmps := #[.pointer (some ⟨g, 0, none⟩), u1, u2, u3, u4, u5, out, .int .i64 (at_ : Int), u8, u9, .int .i64 (H : Int), u11, u12, u13, u14, u15, u16, u17, u18, u19, u20, u21, u22, u23, u24, u25, u26, u27, u28, u29, u30, u31, u32, u33, u34, u35, u36, u37, u38, u39, u40, u41, u42, u43, u44, u45, u46, u47, u48, u49, u50, u51, u52, u53, u54, u55, u56, u57, u58, u59, u60, u61, u62, u63, u64, u65, u66, u67, u68, u69, u70, u71, u72, u73, u74, u75, u76, u77, u78, u79, u80, u81, u82, u83, u84, u85, u86, u87, u88, u89, u90, u91, u92, u93, u94, u95, u96, u97, u98, u99, u100, u101, u102, u103, u104, u105, u106, u107, u108, u109, u110, u111, u112, u113, u114, u115, u116, u117, u118, u119, u120, u121, u122, u123, u124, u125, u126, u127, u128, u129, u130, u131, u132, u133, u134, u135, u136, u137, u138, u139, u140, u141, u142, u143, u144, u145, u146, u147, u148, u149, u150, u151, u152], defers := [] } W := by
  subst hv
  have hat := hf.hat
  have hl0 : L.length = 0 := by
    rcases hf.row.2 with ⟨_, h0⟩ | ⟨_, _, _, h0, _⟩
    · exact h0
    · cases h0
  have h0 : at_ = 0 := by omega
  subst h0
  have x2 := hf.blk.cell 2
  simp at x2
  have xf := hf.blk.frozen
  have HF := Lib.hid hf
  have HC := Lib.hid hc0
  have HL0 := Lib.hid hl0
  clear hf hc0 hat hl0
  refine ⟨_, rfl, ?_⟩
  go_wp2
  go_region_held3 (fun w' => w'.cell? ⟨g, 2, none⟩ = some (.slice none 0 0)) (first | go_keep | assumption) ((refine step_copy_fr (by rfl) (.tmp 135) (.tmp 141) 60 60 (by rfl) 5 Try.underlying60 u8size none none 0 0 0 0 (by rfl) (by rfl) 0 0 [] 5 [] (by simp) rfl (by simp) (by simp) (by simp) ?_; intro w2 _ he _; obtain rfl := he rfl))
  go_wp2
  refine HQ.out _ _ _ _ _ rfl rfl rfl (fin_done HF.out HC.out (v' := .slice none 0 0) (((HF.out.blk.drewN _)).set2 _) ?_ rfl (((Fr.refl W g _).drewN _).set_ (p := ⟨g, 2, none⟩) (.inl rfl) _)) ?_
  · obtain rfl : L = [] := List.eq_nil_of_length_eq_zero HL0.out
    exact World.ownsRow_nil _ _ _ _
  · rw [HF.out.cutE, HC.out]; rfl

set_option maxRecDepth 100000 in
set_option maxHeartbeats 2000000 in
theorem pass_done_cut {w W : World} {g B : Nat} {r : Option Nat} {h m : Int} {L : Bys} {i0 H at_ : Nat} {ms : List Bys} {i : Nat} {out v : Value} (hf : FI w W g B r h m L i0 at_ ms i out v) (hH : hsz h = H) (hL : L.length ≤ 1000000000) (HI : Hid ((i0 : Int) + (i : Int) ≤ 1000000000000))
    (k cap : Nat) (cur : List Value) (hv : v = .slice (some ⟨k, 0, none⟩) L.length cap) (hrow : W.heap[k]? = some (.cells cur.toArray 5 (0, 0))) (hcl : Hid (cur.length = cap)) (htk : Hid (cur.take L.length = bcells L)) (hle : L.length ≤ cap) (hmax : cap ≤ maxLen) (hBk : B ≤ k) (hca : at_ < cap) (hc0 : cut h m (L.drop at_) = ⟨[], 0, L.drop at_, 0⟩) (Q : Exit → Act → World → Prop) (HQ : Hid (∀ a W' out' v' e, a.tmps.getD 4 undef = out' → a.tmps.getD 5 undef = .int .i64 e → a.defers = [] → Fin_ w W' g B r h m (cut h m L).ms (cut h m L).err ⟨(cut h m L).rest, (cut h m L).err, i0 + (cut h m L).idle⟩ out' v' → e = (cut h m L).err → Q .ret a W')) (u1 u2 u3 u4 u5 u8 u9 u11 u12 u13 u14 u15 u16 u17 u18 u19 u20 u21 u22 u23 u24 u25 u26 u27 u28 u29 u30 u31 u32 u33 u34 u35 u36 u37 u38 u39 u40 u41 u42 u43 u44 u45 u46 u47 u48 u49 u50 u51 u52 u53 u54 u55 u56 u57 u58 u59 u60 u61 u62 u63 u64 u65 u66 u67 u68 u69 u70 u71 u72 u73 u74 u75 u76 u77 u78 u79 u80 u81 u82 u83 u84 u85 u86 u87 u88 u89 u90 u91 u92 u93 u94 u95 u96 u97 u98 u99 u100 u101 u102 u103 u104 u105 u106 u107 u108 u109 u110 u111 u112 u113 u114 u115 u116 u117 u118 u119 u120 u121 u122 u123 u124 u125 u126 u127 u128 u129 u130 u131 u132 u133 u134 u135 u136 u137 u138 u139 u140 u141 u142 u143 u144 u145 u146 u147 u148 u149 u150 u151 u152 : Value) :
    ∃ r0, findLabel (scopeOf (Try.f26.body.getD .skip)) 0 = some r0 ∧ r0.wp Try.prog (two (fun _ _ => False) (fun _ _ => False) Q) { tmps := #[.pointer (some ⟨g, 0, none⟩), u1, u2, u3, u4, u5, out, .int .i64 (at_ : Int), u8, u9, .int .i64 (H : Int), u11, u12, u13, u14, u15, u16, u17, u18, u19, u20, u21, u22, u23, u24, u25, u26, u27, u28, u29, u30, u31, u32, u33, u34, u35, u36, u37, u38, u39, u40, u41, u42, u43, u44, u45, u46, u47, u48, u49, u50, u51, u52, u53, u54, u55, u56, u57, u58, u59, u60, u61, u62, u63, u64, u65, u66, u67, u68, u69, u70, u71, u72, u73, u74, u75, u76, u77, u78, u79, u80, u81, u82, u83, u84, u85, u86, u87, u88, u89, u90, u91, u92, u93, u94, u95, u96, u97, u98, u99, u100, u101, u102, u103, u104, u105, u106, u107, u108, u109, u110, u111, u112, u113, u114, u115, u116, u117, u118, u119, u120, u121, u122, u123, u124, u125, u126, u127, u128, u129, u130, u131, u132, u133, u134, u135, u136, u137, u138, u139, u140, u141, u142, u143, u144, u145, u146, u147, u148, u149, u150, u151, u152], defers := [] } W := by
  subst hv
  have hat := hf.hat
  have x2 := hf.blk.cell 2
  simp at x2
  have xf := hf.blk.frozen
  have hkg : k ≠ g := fun e => hf.ne (by rw [e]; rfl)
  have hneg : some g ≠ some k := fun e => hkg (by injection e with e; exact e.symm)
  have HF := Lib.hid hf
  have HC := Lib.hid hc0
  have HR := Lib.hid hrow
  unfold maxLen at hmax
  obtain ⟨left, hleft⟩ : ∃ n, L.length - at_ = n := ⟨_, rfl⟩
  obtain ⟨C, hC⟩ : ∃ C, bcells (L.drop at_) = C := ⟨_, rfl⟩
  have HCL : Hid (C.length = left) := by show _ = _; rw [← hC, bcells_len, List.length_drop, hleft]
  have HCE := Lib.hid hC
  have HLE := Lib.hid hleft
  have hc1 : Hid (∀ v ∈ C, v.oneCell' = true) := by show ∀ _, _; rw [← hC]; exact bcells_one _
  have hneq : ¬ cap = at_ := by omega
  have hsrc : Hid (∀ j v, C[j]? = some v → W.cell? ((⟨k, at_, none⟩ : Addr).add j) = some v) := by
    show ∀ _ _, _
    intro j v hj
    have hjl : j < L.length - at_ := by
      rcases Nat.lt_or_ge j (L.length - at_) with h' | h'
      · exact h'
      · rw [List.getElem?_eq_none (by rw [HCL.out]; omega)] at hj; cases hj
    rw [Addr.add_lit]
    have q := HF.out.row.cells (g := k) rfl (at_ + j) v (by
      rw [← HCE.out] at hj
      unfold bcells at hj ⊢
      rw [List.getElem?_map, List.getElem?_drop] at hj
      rw [List.getElem?_map]; exact hj)
    rwa [Addr.add_lit, Nat.zero_add] at q
  have z0 : (0 : Int) ≤ (at_ : Int) := by omega
  have z1 : (at_ : Int) ≤ (L.length : Int) := by omega
  have z2 : (left : Int) ≤ (cap : Int) := by omega
  have z3 : left ≤ L.length := by omega
  clear hf hc0 hrow hC hleft
  refine ⟨_, rfl, ?_⟩
  go_wp2
  go_region_held3 (fun w' => w'.cell? ⟨g, 2, none⟩ = some (.slice (some ⟨k, 0, none⟩) L.length cap)) (first | go_keep | exact World.grownBy.cell (by assumption) (by assumption) hneg | assumption) ((refine step_copy_fr (by rfl) (.tmp 135) (.tmp 141) 60 60 (by rfl) 5 Try.underlying60 u8size (some ⟨k, 0, none⟩) (some ⟨k, at_, none⟩) L.length cap (L.length - at_) (cap - at_) (by rfl) (by rfl) k 0 cur 5 C (fun _ => HR.out) (by rw [HCL.out, HLE.out]; exact (Nat.min_eq_left z3).symm) (fun _ => ⟨rfl, _, rfl, hsrc.out⟩) (by rw [HCL.out, hcl.out]; omega) hc1.out ?_; intro w2 hh he hgr; rw [HCL.out]))
  rename_i hHeld
  have hg2 : W.grownBy w2 (some k) := ⟨hgr.os, hgr.tape, hgr.output, hgr.size, hgr.block⟩
  have HCUR : Hid (Fr W w2 g (some k) ∧ (∃ cur', w2.heap[k]? = some (.cells (List.toArray cur') 5 (0, 0)) ∧ cur'.length = cap ∧ cur'.take left = C) ∧ Blk w2 g 70 #[.int .i64 h, .int .i64 m, .slice (some ⟨k, 0, none⟩) L.length cap, .int .i64 0, .int .i64 ((i0 + i : Nat) : Int)]) := by
    refine ⟨Fr.of_grown hg2 (.inl rfl), ?_, HF.out.blk.grown hg2 hneg⟩
    by_cases h0 : C.length = 0
    · refine ⟨cur, by rw [he h0]; exact HR.out, hcl.out, ?_⟩
      rw [← HCL.out, h0, List.eq_nil_of_length_eq_zero h0]; rfl
    · refine ⟨splice cur 0 C, hh (by omega), ?_, ?_⟩
      · rw [length_splice _ _ _ (by rw [HCL.out, hcl.out]; omega)]; exact hcl.out
      · rw [← HCL.out]; exact splice_take _ _ (by rw [HCL.out, hcl.out]; omega)
  have xf2 := HCUR.out.2.2.frozen
  clear hh he hgr hg2 xf
  go_wp2
  refine HQ.out _ _ _ _ _ rfl rfl rfl (fin_done HF.out HC.out (v' := .slice (some ⟨k, 0, none⟩) left cap) (HCUR.out.2.2.set2 _) ?_ rfl ((HCUR.out.1).set_ (p := ⟨g, 2, none⟩) (.inl rfl) _)) ?_
  · rw [HLE.out, HCE.out]
    obtain ⟨cur', q1, q2, q3⟩ := HCUR.out.2.1
    have q4 : ∀ W' : World, W'.heap[k]? = some (.cells (List.toArray cur') 5 (0, 0)) → (W'.setCell ⟨g, 2, none⟩ (.slice (some ⟨k, 0, none⟩) left cap)).heap[k]? = some (.cells (List.toArray cur') 5 (0, 0)) := fun W' hh => (Below.heap_setCell W' ⟨g, 2, none⟩ _ k hkg).trans hh
    exact own_cut (q4 _ q1) hBk HCL.out (by omega) (by unfold maxLen; omega) q2 q3
  · rw [HF.out.cutE, HC.out]; rfl

set_option maxRecDepth 100000 in
set_option maxHeartbeats 2000000 in
theorem pass_done_all {w W : World} {g B : Nat} {r : Option Nat} {h m : Int} {L : Bys} {i0 H at_ : Nat} {ms : List Bys} {i : Nat} {out v : Value} (hf : FI w W g B r h m L i0 at_ ms i out v) (hH : hsz h = H) (hL : L.length ≤ 1000000000) (HI : Hid ((i0 : Int) + (i : Int) ≤ 1000000000000))
    (k cap : Nat) (cur : List Value) (hv : v = .slice (some ⟨k, 0, none⟩) L.length cap) (hrow : W.heap[k]? = some (.cells cur.toArray 5 (0, 0))) (hcl : Hid (cur.length = cap)) (htk : Hid (cur.take L.length = bcells L)) (hle : L.length ≤ cap) (hmax : cap ≤ maxLen) (hBk : B ≤ k) (hca : at_ = cap) (hc0 : cut h m (L.drop at_) = ⟨[], 0, L.drop at_, 0⟩) (Q : Exit → Act → World → Prop) (HQ : Hid (∀ a W' out' v' e, a.tmps.getD 4 undef = out' → a.tmps.getD 5 undef = .int .i64 e → a.defers = [] → Fin_ w W' g B r h m (cut h m L).ms (cut h m L).err ⟨(cut h m L).rest, (cut h m L).err, i0 + (cut h m L).idle⟩ out' v' → e = (cut h m L).err → Q .ret a W')) (u1 u2 u3 u4 u5 u8 u9 u11 u12 u13 u14 u15 u16 u17 u18 u19 u20 u21 u22 u23 u24 u25 u26 u27 u28 u29 u30 u31 u32 u33 u34 u35 u36 u37 u38 u39 u40 u41 u42 u43 u44 u45 u46 u47 u48 u49 u50 u51 u52 u53 u54 u55 u56 u57 u58 u59 u60 u61 u62 u63 u64 u65 u66 u67 u68 u69 u70 u71 u72 u73 u74 u75 u76 u77 u78 u79 u80 u81 u82 u83 u84 u85 u86 u87 u88 u89 u90 u91 u92 u93 u94 u95 u96 u97 u98 u99 u100 u101 u102 u103 u104 u105 u106 u107 u108 u109 u110 u111 u112 u113 u114 u115 u116 u117 u118 u119 u120 u121 u122 u123 u124 u125 u126 u127 u128 u129 u130 u131 u132 u133 u134 u135 u136 u137 u138 u139 u140 u141 u142 u143 u144 u145 u146 u147 u148 u149 u150 u151 u152 : Value) :
    ∃ r0, findLabel (scopeOf (Try.f26.body.getD .skip)) 0 = some r0 ∧ r0.wp Try.prog (two (fun _ _ => False) (fun _ _ => False) Q) { tmps := #[.pointer (some ⟨g, 0, none⟩), u1, u2, u3, u4, u5, out, .int .i64 (at_ : Int), u8, u9, .int .i64 (H : Int), u11, u12, u13, u14, u15, u16, u17, u18, u19, u20, u21, u22, u23, u24, u25, u26, u27, u28, u29, u30, u31, u32, u33, u34, u35, u36, u37, u38, u39, u40, u41, u42, u43, u44, u45, u46, u47, u48, u49, u50, u51, u52, u53, u54, u55, u56, u57, u58, u59, u60, u61, u62, u63, u64, u65, u66, u67, u68, u69, u70, u71, u72, u73, u74, u75, u76, u77, u78, u79, u80, u81, u82, u83, u84, u85, u86, u87, u88, u89, u90, u91, u92, u93, u94, u95, u96, u97, u98, u99, u100, u101, u102, u103, u104, u105, u106, u107, u108, u109, u110, u111, u112, u113, u114, u115, u116, u117, u118, u119, u120, u121, u122, u123, u124, u125, u126, u127, u128, u129, u130, u131, u132, u133, u134, u135, u136, u137, u138, u139, u140, u141, u142, u143, u144, u145, u146, u147, u148, u149, u150, u151, u152], defers := [] } W := by
  subst hv
  have hat := hf.hat
  have x2 := hf.blk.cell 2
  simp at x2
  have xf := hf.blk.frozen
  have hkg : k ≠ g := fun e => hf.ne (by rw [e]; rfl)
  have hneg : some g ≠ some k := fun e => hkg (by injection e with e; exact e.symm)
  have HF := Lib.hid hf
  have HC := Lib.hid hc0
  have HR := Lib.hid hrow
  unfold maxLen at hmax
  obtain ⟨left, hleft⟩ : ∃ n, L.length - at_ = n := ⟨_, rfl⟩
  obtain ⟨C, hC⟩ : ∃ C, bcells (L.drop at_) = C := ⟨_, rfl⟩
  have HCL : Hid (C.length = left) := by show _ = _; rw [← hC, bcells_len, List.length_drop, hleft]
  have HCE := Lib.hid hC
  have HLE := Lib.hid hleft
  have hc1 : Hid (∀ v ∈ C, v.oneCell' = true) := by show ∀ _, _; rw [← hC]; exact bcells_one _
  subst hca
  have hll : L.length = at_ := by omega
  have z0 : (0 : Int) ≤ (at_ : Int) := by omega
  have z1 : (at_ : Int) ≤ (L.length : Int) := by omega
  have z2 : (left : Int) ≤ (at_ : Int) := by omega
  have z3 : left ≤ L.length := by omega
  have z4 : Hid (left = 0) := by show _ = _; omega
  have z5 : Hid (L.length = at_) := hll
  clear hf hc0 hrow hC hleft hll
  refine ⟨_, rfl, ?_⟩
  go_wp2
  go_region_held3 (fun w' => w'.cell? ⟨g, 2, none⟩ = some (.slice (some ⟨k, 0, none⟩) L.length at_)) (first | go_keep | exact World.grownBy.cell (by assumption) (by assumption) hneg | assumption) ((refine step_copy_fr (by rfl) (.tmp 135) (.tmp 141) 60 60 (by rfl) 5 Try.underlying60 u8size (some ⟨k, 0, none⟩) _ L.length at_ _ _ (by rfl) (by rfl) k 0 cur 5 C (fun _ => HR.out) (by rw [HCL.out, z4.out]; simp) (fun hh => absurd hh (by rw [HCL.out, z4.out]; simp)) (by rw [HCL.out, hcl.out]; omega) hc1.out ?_; intro w2 hh he hgr; rw [HCL.out]))
  rename_i hHeld
  have hg2 : W.grownBy w2 (some k) := ⟨hgr.os, hgr.tape, hgr.output, hgr.size, hgr.block⟩
  have HCUR : Hid (Fr W w2 g (some k) ∧ (∃ cur', w2.heap[k]? = some (.cells (List.toArray cur') 5 (0, 0)) ∧ cur'.length = at_ ∧ cur'.take left = C) ∧ Blk w2 g 70 #[.int .i64 h, .int .i64 m, .slice (some ⟨k, 0, none⟩) L.length at_, .int .i64 0, .int .i64 ((i0 + i : Nat) : Int)]) := by
    refine ⟨Fr.of_grown hg2 (.inl rfl), ?_, HF.out.blk.grown hg2 hneg⟩
    by_cases h0 : C.length = 0
    · refine ⟨cur, by rw [he h0]; exact HR.out, hcl.out, ?_⟩
      rw [← HCL.out, h0, List.eq_nil_of_length_eq_zero h0]; rfl
    · refine ⟨splice cur 0 C, hh (by omega), ?_, ?_⟩
      · rw [length_splice _ _ _ (by rw [HCL.out, hcl.out]; omega)]; exact hcl.out
      · rw [← HCL.out]; exact splice_take _ _ (by rw [HCL.out, hcl.out]; omega)
  have xf2 := HCUR.out.2.2.frozen
  clear hh he hgr hg2 xf
  go_wp2
  refine HQ.out _ _ _ _ _ rfl rfl rfl (fin_done HF.out HC.out (v' := .slice (some ⟨k, 0, none⟩) left at_) (HCUR.out.2.2.set2 _) ?_ rfl ((HCUR.out.1).set_ (p := ⟨g, 2, none⟩) (.inl rfl) _)) ?_
  · rw [HLE.out, HCE.out]
    obtain ⟨cur', q1, q2, q3⟩ := HCUR.out.2.1
    have q4 : ∀ W' : World, W'.heap[k]? = some (.cells (List.toArray cur') 5 (0, 0)) → (W'.setCell ⟨g, 2, none⟩ (.slice (some ⟨k, 0, none⟩) left at_)).heap[k]? = some (.cells (List.toArray cur') 5 (0, 0)) := fun W' hh => (Below.heap_setCell W' ⟨g, 2, none⟩ _ k hkg).trans hh
    exact own_cut (q4 _ q1) hBk HCL.out (by omega) (by unfold maxLen; omega) q2 q3
  · rw [HF.out.cutE, HC.out]; rfl

end Go.Proofs.Ytpipcklnicmpfaa
