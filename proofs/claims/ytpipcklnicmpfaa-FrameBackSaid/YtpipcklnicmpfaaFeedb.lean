/-
  Feed: a pass from a label on (pass_wait, pass_idle).
-/
import Derived.Test.YtpipcklnicmpfaaFeed
namespace Go.Proofs.Ytpipcklnicmpfaa
open Go.RowKit
set_option linter.unusedVariables false
set_option linter.unusedSimpArgs false
set_option maxRecDepth 100000 in
set_option maxHeartbeats 2000000 in
theorem pass_wait {w W : World} {g B : Nat} {r : Option Nat} {h m : Int} {L : Bys} {i0 H at_ : Nat} {ms : List Bys} {i : Nat} {out v : Value} (hf : FI w W g B r h m L i0 at_ ms i out v) (hH : hsz h = H) (hL : L.length ≤ 1000000000) (HI : Hid ((i0 : Int) + (i : Int) ≤ 1000000000000))
    (h1 : 1 ≤ h) (h4 : h ≤ 4) (hs : ¬ L.length - at_ < H) (p : Int) (ok : Bool) (hp : toldI h ((L.drop at_).take H) = (p, ok)) (hok : ok = true) (hlo : p ≤ m) (hp0 : 0 ≤ p) (hm : m ≤ 9999) (hw : (L.length : Int) - (at_ : Int) < (H : Int) + p) (J : Act → World → Prop) (Q : Exit → Act → World → Prop) (u1 u2 u3 u4 u5 u8 u9 u11 u12 u13 u14 u15 u16 u17 u18 u19 u20 u21 u22 u23 u24 u25 u26 u27 u28 u29 u30 u31 u32 u33 u34 u35 u36 u37 u38 u39 u40 u41 u42 u43 u44 u45 u46 u47 u48 u49 u50 u51 u52 u53 u54 u55 u56 u57 u58 u59 u60 u61 u62 u63 u64 u65 u66 u67 u68 u69 u70 u71 u72 u73 u74 u75 u76 u77 u78 u79 u80 u81 u82 u83 u84 u85 u86 u87 u88 u89 u90 u91 u92 u93 u94 u95 u96 u97 u98 u99 u100 u101 u102 u103 u104 u105 u106 u107 u108 u109 u110 u111 u112 u113 u114 u115 u116 u117 u118 u119 u120 u121 u122 u123 u124 u125 u126 u127 u128 u129 u130 u131 u132 u133 u134 u135 u136 u137 u138 u139 u140 u141 u142 u143 u144 u145 u146 u147 u148 u149 u150 u151 u152 : Value) :
    ∃ r1, findLabel (scopeOf (Try.f26.body.getD .skip)) 1 = some (.seq .skip r1) ∧ r1.wp Try.prog (two (J0 w g B r h m L i0 H) J Q) { tmps := #[.pointer (some ⟨g, 0, none⟩), u1, u2, u3, u4, u5, out, .int .i64 (at_ : Int), u8, u9, .int .i64 (H : Int), u11, u12, u13, u14, u15, u16, u17, u18, u19, u20, u21, u22, u23, u24, u25, u26, u27, u28, u29, u30, u31, u32, u33, u34, u35, u36, u37, u38, u39, u40, u41, u42, u43, u44, u45, u46, u47, u48, u49, u50, u51, u52, u53, u54, u55, u56, u57, u58, u59, u60, u61, u62, u63, u64, u65, u66, u67, u68, u69, u70, u71, u72, u73, u74, u75, u76, u77, u78, u79, u80, u81, u82, u83, u84, u85, u86, u87, u88, u89, u90, u91, u92, u93, u94, u95, u96, u97, u98, u99, u100, u101, u102, u103, u104, u105, u106, u107, u108, u109, u110, u111, u112, u113, u114, u115, u116, u117, u118, u119, u120, u121, u122, u123, u124, u125, u126, u127, u128, u129, u130, u131, u132, u133, u134, u135, u136, u137, u138, u139, u140, u141, u142, u143, u144, u145, u146, u147, u148, u149, u150, u151, u152], defers := [] } W := by
  obtain ⟨A, cap, rfl, hcap, hmax, hk⟩ := hf.form
  unfold maxLen at hmax
  have hat := hf.hat
  have x0 := hf.blk.cell 0
  have x1 := hf.blk.cell 1
  have x2 := hf.blk.cell 2
  have x3 := hf.blk.cell 3
  have x4 := hf.blk.cell 4
  simp at x0 x1 x2 x3 x4
  have xf := hf.blk.frozen
  have HF := Lib.hid hf
  have HH := Lib.hid hH
  clear hf
  have hHr := hsz_pos h
  rw [hH] at hHr
  obtain ⟨hH2, hH4⟩ := hHr
  obtain ⟨k, rfl, hkl, hkg, hkc⟩ := hk (by omega)
  clear hk
  have hT : Hid (∀ W' : World, (∀ i, i < L.length → W'.cell? ⟨k, i, none⟩ = some (.int .u8 (bn (L.getD i 0)))) → Calls Try.prog 41 #[.int .i64 h, .slice (some ⟨k, at_, none⟩) H (cap - at_)] W' fun e w' => e = .returned (.tuple #[.int .i64 p, .bool ok]) ∧ ∃ n, w' = W'.drewN n) := by
    show ∀ _, _
    intro W' hc
    have q := told_any h1 h4 k at_ (cap - at_) ((L.drop at_).take H) (by rw [List.length_take, List.length_drop]; omega) W' (fun i hi => by
      have hq := hc (at_ + i) (by omega)
      rw [hq]
      congr 3
      rw [List.getD, List.getD, List.getElem?_take_of_lt (by omega), List.getElem?_drop])
    rw [hH, hp] at q
    exact q
  have HK := Lib.hid hkc
  have hneq : ¬ cap = at_ := by omega
  have hs2 : (H : Int) ≤ (L.length : Int) - (at_ : Int) := by omega
  clear hs
  clear hH hkc
  refine ⟨_, rfl, ?_⟩
  go_wp2
  have z0 : (0 : Int) ≤ (at_ : Int) := by omega
  have z1 : (at_ : Int) ≤ (at_ : Int) + (H : Int) := by omega
  have z2 : (at_ : Int) + (H : Int) ≤ (cap : Int) := by omega
  have z3 : (0 : Int) ≤ (at_ : Int) + (H : Int) := by omega
  have z5 : at_ + H - at_ = H := by omega
  have z6 : ((at_ : Int) + (H : Int)).toNat = at_ + H := by omega
  have z7 : IntKind.i64.wrap ((at_ : Int) + (H : Int)) = (at_ : Int) + (H : Int) := IntWalk.i64_in _ (by omega)
  have d1 : decide (m < p) = false := decide_eq_false (by omega)
  go_quiet ((go_at_call 41; refine Calls.quiet_of (hT.out _ HK.out)))
  clear z5 z6 z7
  go_wp2
  go_step3
  refine ⟨at_, ms, i, out, _, HF.out.drewN _, cut_wait (by rw [List.length_drop, HH.out]; omega) (by rw [HH.out, hp, hok]) (by rw [HH.out, hp]; simp only; omega) (by rw [List.length_drop, HH.out, hp]; simp only; omega), ⟨rfl, rfl, rfl, rfl, rfl, rfl⟩⟩

set_option maxRecDepth 100000 in
set_option maxHeartbeats 2000000 in
theorem pass_idle {w W : World} {g B : Nat} {r : Option Nat} {h m : Int} {L : Bys} {i0 H at_ : Nat} {ms : List Bys} {i : Nat} {out v : Value} (hf : FI w W g B r h m L i0 at_ ms i out v) (hH : hsz h = H) (hL : L.length ≤ 1000000000) (HI : Hid ((i0 : Int) + (i : Int) ≤ 1000000000000))
    (h1 : 1 ≤ h) (h4 : h ≤ 4) (hs : ¬ L.length - at_ < H) (ok : Bool) (hp : toldI h ((L.drop at_).take H) = (0, ok)) (hok : ok = true) (hlo : 0 ≤ m) (hm : m ≤ 9999) (J : Act → World → Prop) (Q : Exit → Act → World → Prop) (u1 u2 u3 u4 u5 u8 u9 u11 u12 u13 u14 u15 u16 u17 u18 u19 u20 u21 u22 u23 u24 u25 u26 u27 u28 u29 u30 u31 u32 u33 u34 u35 u36 u37 u38 u39 u40 u41 u42 u43 u44 u45 u46 u47 u48 u49 u50 u51 u52 u53 u54 u55 u56 u57 u58 u59 u60 u61 u62 u63 u64 u65 u66 u67 u68 u69 u70 u71 u72 u73 u74 u75 u76 u77 u78 u79 u80 u81 u82 u83 u84 u85 u86 u87 u88 u89 u90 u91 u92 u93 u94 u95 u96 u97 u98 u99 u100 u101 u102 u103 u104 u105 u106 u107 u108 u109 u110 u111 u112 u113 u114 u115 u116 u117 u118 u119 u120 u121 u122 u123 u124 u125 u126 u127 u128 u129 u130 u131 u132 u133 u134 u135 u136 u137 u138 u139 u140 u141 u142 u143 u144 u145 u146 u147 u148 u149 u150 u151 u152 : Value) :
    ∃ r1, findLabel (scopeOf (Try.f26.body.getD .skip)) 1 = some (.seq .skip r1) ∧ r1.wp Try.prog (two J (fun a' w' => J1 w g B r h m L i0 H a' w' ∧ μ1 L a' w' < L.length - at_) Q) { tmps := #[.pointer (some ⟨g, 0, none⟩), u1, u2, u3, u4, u5, out, .int .i64 (at_ : Int), u8, u9, .int .i64 (H : Int), u11, u12, u13, u14, u15, u16, u17, u18, u19, u20, u21, u22, u23, u24, u25, u26, u27, u28, u29, u30, u31, u32, u33, u34, u35, u36, u37, u38, u39, u40, u41, u42, u43, u44, u45, u46, u47, u48, u49, u50, u51, u52, u53, u54, u55, u56, u57, u58, u59, u60, u61, u62, u63, u64, u65, u66, u67, u68, u69, u70, u71, u72, u73, u74, u75, u76, u77, u78, u79, u80, u81, u82, u83, u84, u85, u86, u87, u88, u89, u90, u91, u92, u93, u94, u95, u96, u97, u98, u99, u100, u101, u102, u103, u104, u105, u106, u107, u108, u109, u110, u111, u112, u113, u114, u115, u116, u117, u118, u119, u120, u121, u122, u123, u124, u125, u126, u127, u128, u129, u130, u131, u132, u133, u134, u135, u136, u137, u138, u139, u140, u141, u142, u143, u144, u145, u146, u147, u148, u149, u150, u151, u152], defers := [] } W := by
  obtain ⟨A, cap, rfl, hcap, hmax, hk⟩ := hf.form
  unfold maxLen at hmax
  have hat := hf.hat
  have x0 := hf.blk.cell 0
  have x1 := hf.blk.cell 1
  have x2 := hf.blk.cell 2
  have x3 := hf.blk.cell 3
  have x4 := hf.blk.cell 4
  simp at x0 x1 x2 x3 x4
  have xf := hf.blk.frozen
  have HF := Lib.hid hf
  have HH := Lib.hid hH
  clear hf
  have hHr := hsz_pos h
  rw [hH] at hHr
  obtain ⟨hH2, hH4⟩ := hHr
  obtain ⟨k, rfl, hkl, hkg, hkc⟩ := hk (by omega)
  clear hk
  have hT : Hid (∀ W' : World, (∀ i, i < L.length → W'.cell? ⟨k, i, none⟩ = some (.int .u8 (bn (L.getD i 0)))) → Calls Try.prog 41 #[.int .i64 h, .slice (some ⟨k, at_, none⟩) H (cap - at_)] W' fun e w' => e = .returned (.tuple #[.int .i64 0, .bool ok]) ∧ ∃ n, w' = W'.drewN n) := by
    show ∀ _, _
    intro W' hc
    have q := told_any h1 h4 k at_ (cap - at_) ((L.drop at_).take H) (by rw [List.length_take, List.length_drop]; omega) W' (fun i hi => by
      have hq := hc (at_ + i) (by omega)
      rw [hq]
      congr 3
      rw [List.getD, List.getD, List.getElem?_take_of_lt (by omega), List.getElem?_drop])
    rw [hH, hp] at q
    exact q
  have HK := Lib.hid hkc
  have hneq : ¬ cap = at_ := by omega
  have hs2 : (H : Int) ≤ (L.length : Int) - (at_ : Int) := by omega
  clear hs
  clear hH hkc
  refine ⟨_, rfl, ?_⟩
  go_wp2
  have z0 : (0 : Int) ≤ (at_ : Int) := by omega
  have z1 : (at_ : Int) ≤ (at_ : Int) + (H : Int) := by omega
  have z2 : (at_ : Int) + (H : Int) ≤ (cap : Int) := by omega
  have z3 : (0 : Int) ≤ (at_ : Int) + (H : Int) := by omega
  have z5 : at_ + H - at_ = H := by omega
  have z6 : ((at_ : Int) + (H : Int)).toNat = at_ + H := by omega
  have z7 : IntKind.i64.wrap ((at_ : Int) + (H : Int)) = (at_ : Int) + (H : Int) := IntWalk.i64_in _ (by omega)
  have d1 : decide (m < 0) = false := decide_eq_false (by omega)
  have hii : (i0 : Int) + (i : Int) ≤ 1000000000000 := HI.out
  go_quiet ((go_at_call 41; refine Calls.quiet_of (hT.out _ HK.out)))
  clear z5 z6 z7
  go_wp2
  go_step3
  have hcut := cut_idle (h := h) (m := m) (l := L.drop at_) (by rw [List.length_drop, HH.out]; omega) (by rw [HH.out, hp, hok]) (by rw [HH.out, hp]; simp only; omega) (by rw [List.length_drop, HH.out, hp]; simp only; omega) (by rw [HH.out, hp])
  rw [HH.out, hp, List.drop_drop] at hcut
  refine ⟨⟨at_ + (H + 0), ms, i + 1, out, _, FI.idled (HF.out.drewN _) (k := H + 0) (by omega) hcut, ⟨rfl, rfl, rfl, rfl, rfl, rfl⟩⟩, ?_⟩
  simp [μ1, intOf]
  omega

end Go.Proofs.Ytpipcklnicmpfaa
