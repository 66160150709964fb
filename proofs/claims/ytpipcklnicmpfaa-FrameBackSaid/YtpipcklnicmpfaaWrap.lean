/-
  Wrap, the program's and the document's, by their contracts.
-/
import Derived.Test.YtpipcklnicmpfaaLeaf
import Derived.Deep.RegionHeld3
namespace Go.Proofs.Ytpipcklnicmpfaa
open Go.RowKit
set_option linter.unusedVariables false
set_option linter.unusedSimpArgs false
def wrapE (h m : Int) (n : Nat) : Int := if mayB h m = false then 1 else if n = 0 then 142 else if m < (n : Int) then 141 else 0
def wrapB (h m : Int) (s : ByteArray) : ByteArray := if wrapE h m s.size = 0 then bstr (hdrV h s.size) ++ s else ByteArray.empty
/-- What Wrap tells. -/
def wrapW (h m : Int) (s : ByteArray) : Value := .tuple #[.string (wrapB h m s), .int .i64 (wrapE h m s.size)]
theorem conv_blk {w : World} {k n c : Nat} {t : TypeId} {l : Bys} {cs : Array Value} (hb : Blk w k t cs) (hl : l.length = n) (hc : cs.toList = bcells l) :
    (convert 60 9 (.slice (some ⟨k, 0, none⟩) n c)).run Try.prog w = .ok (.string (bstr l)) w := by
  rw [← strOfNums_bys]
  refine run_convert_bytes_arg (P := Try.prog) w 60 5 Try.underlying60 Try.underlying5 k 0 n c _ (by rw [List.length_map]; exact hl) (fun i hi => ?_) 9 Try.underlying9
  rw [Nat.zero_add, hb.cell i, ← Array.getElem?_toList, hc]
  unfold bcells
  rw [List.getD, List.getElem?_map, List.getElem?_map, List.getElem?_eq_getElem (by omega)]
  rfl
theorem str_ne {s : ByteArray} (h : s.size ≠ 0) : s.toList.isEmpty = false := by
  classical
  rw [← decide_eq_emptyBytes s]
  exact decide_eq_false (fun e => h (by rw [e]; rfl))
theorem str_nil {s : ByteArray} (h : s.size = 0) : s.toList.isEmpty = true := by
  classical
  rw [← decide_eq_emptyBytes s]
  exact decide_eq_true (ByteArray.ext (Array.size_eq_zero_iff.1 h))
theorem hcell {x : Nat} {y : Int} (hx : x < 256) (h : (x : Int) = y) : Value.int .u8 (bn (UInt8.ofNat x)) = .int .u8 y := by
  rw [bn_ofNat hx, h]
theorem cells_two (n : Nat) (hn : n ≤ 9999) : #[Value.int .u8 ((n : Int) / 1000 + 48), .int .u8 ((n : Int) / 100 % 10 + 48), .int .u8 ((n : Int) / 10 % 10 + 48), .int .u8 ((n : Int) % 10 + 48)].toList = bcells (hdrV 2 n) := by
  unfold bcells hdrV hdrN
  rw [if_pos rfl]
  simp only [List.map_cons, List.map_nil]
  rw [hcell (y := (n : Int) / 1000 + 48) (by omega) (by omega), hcell (y := (n : Int) / 100 % 10 + 48) (by omega) (by omega), hcell (y := (n : Int) / 10 % 10 + 48) (by omega) (by omega), hcell (y := (n : Int) % 10 + 48) (by omega) (by omega)]
theorem cells_three (n : Nat) (hn : n ≤ 9999) : #[Value.int .u8 ((n : Int) / 1000 * 16 + (n : Int) / 100 % 10), .int .u8 ((n : Int) / 10 % 10 * 16 + (n : Int) % 10)].toList = bcells (hdrV 3 n) := by
  unfold bcells hdrV hdrN
  rw [if_neg (by decide), if_pos rfl]
  simp only [List.map_cons, List.map_nil]
  rw [hcell (y := (n : Int) / 1000 * 16 + (n : Int) / 100 % 10) (by omega) (by omega), hcell (y := (n : Int) / 10 % 10 * 16 + (n : Int) % 10) (by omega) (by omega)]
theorem cells_four (n : Nat) (hn : n ≤ 9999) : #[Value.int .u8 (((n : Int) + 2) / 256), .int .u8 (((n : Int) + 2) % 256)].toList = bcells (hdrV 4 n) := by
  unfold bcells hdrV hdrN
  rw [if_neg (by decide), if_neg (by decide), if_pos rfl]
  simp only [List.map_cons, List.map_nil]
  rw [hcell (y := ((n : Int) + 2) / 256) (by omega) (by omega), hcell (y := ((n : Int) + 2) % 256) (by omega) (by omega)]
theorem cells_one (n : Nat) (hn : n ≤ 9999) : #[Value.int .u8 ((n : Int) / 256), .int .u8 ((n : Int) % 256)].toList = bcells (hdrV 1 n) := by
  unfold bcells hdrV hdrN
  rw [if_neg (by decide), if_neg (by decide), if_neg (by decide)]
  simp only [List.map_cons, List.map_nil]
  rw [hcell (y := (n : Int) / 256) (by omega) (by omega), hcell (y := (n : Int) % 256) (by omega) (by omega)]
theorem or16 (a b : Int) (ha : 0 ≤ a) (ha2 : a < 16) (hb : 0 ≤ b) (hb2 : b < 16) : bits .or .u8 (a * 16) b = a * 16 + b := by
  obtain ⟨x, rfl⟩ : ∃ m : Nat, a = (m : Int) := ⟨a.toNat, by omega⟩
  obtain ⟨y, rfl⟩ : ∃ m : Nat, b = (m : Int) := ⟨b.toNat, by omega⟩
  have h : ∀ v : Fin 16, ∀ u : Fin 16, bits .or .u8 ((v.val : Int) * 16) (u.val : Int) = (v.val : Int) * 16 + (u.val : Int) := by decide +kernel
  exact h ⟨x, by omega⟩ ⟨y, by omega⟩
set_option maxRecDepth 100000 in
set_option maxHeartbeats 1000000 in
theorem wrap_two (m : Int) (s : ByteArray) (n : Nat) (hn : s.size = n) (e : mayB 2 m = true) (h0 : 0 < n) (h1 : (n : Int) ≤ m) (hm : m ≤ 9999) (w : World) :
    Calls Try.prog 9 #[.int .i64 2, .int .i64 m, .string s] w fun e w' => e = .returned (.tuple #[.string (bstr (hdrV 2 n) ++ s), .int .i64 0]) ∧ Below w.heap.size w w' := by
  have he := Lib.hid e
  have HN := Lib.hid hn
  clear e
  have d0 : ((n : Int) == 0) = false := by simp; omega
  have d1 : decide (m < (n : Int)) = false := decide_eq_false (by omega)
  have hbs : (bstr (hdrV 2 n)).size ≤ 4 := by rw [bstr_size, hdr_len]; decide
  have W0 : IntKind.u8.wrap ((n : Int) / 1000) = (n : Int) / 1000 := IntWalk.u8_in _ (by omega)
  have W1 : IntKind.u8.wrap ((n : Int) / 100 % 10) = (n : Int) / 100 % 10 := IntWalk.u8_in _ (by omega)
  have W2 : IntKind.u8.wrap ((n : Int) / 10 % 10) = (n : Int) / 10 % 10 := IntWalk.u8_in _ (by omega)
  have W3 : IntKind.u8.wrap ((n : Int) % 10) = (n : Int) % 10 := IntWalk.u8_in _ (by omega)
  have hcv := conv_blk (n := 4) (c := 4) (Blk.new w 5 #[.int .u8 ((n : Int) / 1000 + 48), .int .u8 ((n : Int) / 100 % 10 + 48), .int .u8 ((n : Int) / 10 % 10 + 48), .int .u8 ((n : Int) % 10 + 48)]) (by rw [hdr_len]; decide) (cells_two n (by omega))
  go_enter Try.func9, Try.ntmps9
  go_wp2_with (go_at_call 33; refine (may_any _ _ _).mono ?_; rintro e w' ⟨rfl, rfl⟩; rw [he.out])
  refine wp_loop_rounds 5 ?_
  iterate 4
    rw [rounds_succ]
    go_wp2
  rw [rounds_succ]
  go_wp2
  go_ret2
  exact ⟨rfl, (Below.refl _ _).alloc (Nat.le_refl _) _⟩
set_option maxRecDepth 100000 in
set_option maxHeartbeats 1000000 in
theorem wrap_four (m : Int) (s : ByteArray) (n : Nat) (hn : s.size = n) (e : mayB 4 m = true) (h0 : 0 < n) (h1 : (n : Int) ≤ m) (hm : m ≤ 9999) (w : World) :
    Calls Try.prog 9 #[.int .i64 4, .int .i64 m, .string s] w fun e w' => e = .returned (.tuple #[.string (bstr (hdrV 4 n) ++ s), .int .i64 0]) ∧ Below w.heap.size w w' := by
  have he := Lib.hid e
  have HN := Lib.hid hn
  clear e
  have d0 : ((n : Int) == 0) = false := by simp; omega
  have d1 : decide (m < (n : Int)) = false := decide_eq_false (by omega)
  have hbs : (bstr (hdrV 4 n)).size ≤ 4 := by rw [bstr_size, hdr_len]; decide
  have W0 : IntKind.u8.wrap ((n : Int) / 1000) = (n : Int) / 1000 := IntWalk.u8_in _ (by omega)
  have W1 : IntKind.u8.wrap ((n : Int) / 100 % 10) = (n : Int) / 100 % 10 := IntWalk.u8_in _ (by omega)
  have W2 : IntKind.u8.wrap ((n : Int) / 10 % 10) = (n : Int) / 10 % 10 := IntWalk.u8_in _ (by omega)
  have W3 : IntKind.u8.wrap ((n : Int) % 10) = (n : Int) % 10 := IntWalk.u8_in _ (by omega)
  have W5 : IntKind.u8.wrap (((n : Int) + 2) / 256) = ((n : Int) + 2) / 256 := IntWalk.u8_in _ (by omega)
  have W6 : IntKind.u8.wrap ((n : Int) + 2) = ((n : Int) + 2) % 256 := rfl
  have hcv := conv_blk (n := 2) (c := 2) (Blk.new (w.alloc (.cells #[.int .u8 ((n : Int) / 1000), .int .u8 ((n : Int) / 100 % 10), .int .u8 ((n : Int) / 10 % 10), .int .u8 ((n : Int) % 10)] 5)) 5 #[.int .u8 (((n : Int) + 2) / 256), .int .u8 (((n : Int) + 2) % 256)]) (by rw [hdr_len]; decide) (cells_four n (by omega))
  simp only [World.size_alloc] at hcv
  go_enter Try.func9, Try.ntmps9
  go_wp2_with (go_at_call 33; refine (may_any _ _ _).mono ?_; rintro e w' ⟨rfl, rfl⟩; rw [he.out])
  go_ret2
  exact ⟨rfl, ((Below.refl _ _).alloc (Nat.le_refl _) _).alloc (by simp) _⟩
set_option maxRecDepth 100000 in
set_option maxHeartbeats 1000000 in
theorem wrap_one (m : Int) (s : ByteArray) (n : Nat) (hn : s.size = n) (e : mayB 1 m = true) (h0 : 0 < n) (h1 : (n : Int) ≤ m) (hm : m ≤ 9999) (w : World) :
    Calls Try.prog 9 #[.int .i64 1, .int .i64 m, .string s] w fun e w' => e = .returned (.tuple #[.string (bstr (hdrV 1 n) ++ s), .int .i64 0]) ∧ Below w.heap.size w w' := by
  have he := Lib.hid e
  have HN := Lib.hid hn
  clear e
  have d0 : ((n : Int) == 0) = false := by simp; omega
  have d1 : decide (m < (n : Int)) = false := decide_eq_false (by omega)
  have hbs : (bstr (hdrV 1 n)).size ≤ 4 := by rw [bstr_size, hdr_len]; decide
  have W0 : IntKind.u8.wrap ((n : Int) / 1000) = (n : Int) / 1000 := IntWalk.u8_in _ (by omega)
  have W1 : IntKind.u8.wrap ((n : Int) / 100 % 10) = (n : Int) / 100 % 10 := IntWalk.u8_in _ (by omega)
  have W2 : IntKind.u8.wrap ((n : Int) / 10 % 10) = (n : Int) / 10 % 10 := IntWalk.u8_in _ (by omega)
  have W3 : IntKind.u8.wrap ((n : Int) % 10) = (n : Int) % 10 := IntWalk.u8_in _ (by omega)
  have W5 : IntKind.u8.wrap ((n : Int) / 256) = (n : Int) / 256 := IntWalk.u8_in _ (by omega)
  have W6 : IntKind.u8.wrap (n : Int) = (n : Int) % 256 := rfl
  have hcv := conv_blk (n := 2) (c := 2) (Blk.new (w.alloc (.cells #[.int .u8 ((n : Int) / 1000), .int .u8 ((n : Int) / 100 % 10), .int .u8 ((n : Int) / 10 % 10), .int .u8 ((n : Int) % 10)] 5)) 5 #[.int .u8 ((n : Int) / 256), .int .u8 ((n : Int) % 256)]) (by rw [hdr_len]; decide) (cells_one n (by omega))
  simp only [World.size_alloc] at hcv
  go_enter Try.func9, Try.ntmps9
  go_wp2_with (go_at_call 33; refine (may_any _ _ _).mono ?_; rintro e w' ⟨rfl, rfl⟩; rw [he.out])
  go_ret2
  exact ⟨rfl, ((Below.refl _ _).alloc (Nat.le_refl _) _).alloc (by simp) _⟩
set_option maxRecDepth 100000 in
set_option maxHeartbeats 1000000 in
theorem wrap_three (m : Int) (s : ByteArray) (n : Nat) (hn : s.size = n) (e : mayB 3 m = true) (h0 : 0 < n) (h1 : (n : Int) ≤ m) (hm : m ≤ 9999) (w : World) :
    Calls Try.prog 9 #[.int .i64 3, .int .i64 m, .string s] w fun e w' => e = .returned (.tuple #[.string (bstr (hdrV 3 n) ++ s), .int .i64 0]) ∧ Below w.heap.size w w' := by
  have he := Lib.hid e
  have HN := Lib.hid hn
  clear e
  have d0 : ((n : Int) == 0) = false := by simp; omega
  have d1 : decide (m < (n : Int)) = false := decide_eq_false (by omega)
  have hbs : (bstr (hdrV 3 n)).size ≤ 4 := by rw [bstr_size, hdr_len]; decide
  have W0 : IntKind.u8.wrap ((n : Int) / 1000) = (n : Int) / 1000 := IntWalk.u8_in _ (by omega)
  have W1 : IntKind.u8.wrap ((n : Int) / 100 % 10) = (n : Int) / 100 % 10 := IntWalk.u8_in _ (by omega)
  have W2 : IntKind.u8.wrap ((n : Int) / 10 % 10) = (n : Int) / 10 % 10 := IntWalk.u8_in _ (by omega)
  have W3 : IntKind.u8.wrap ((n : Int) % 10) = (n : Int) % 10 := IntWalk.u8_in _ (by omega)
  have O1 := or16 ((n : Int) / 1000) ((n : Int) / 100 % 10) (by omega) (by omega) (by omega) (by omega)
  have O2 := or16 ((n : Int) / 10 % 10) ((n : Int) % 10) (by omega) (by omega) (by omega) (by omega)
  have S1 : IntKind.u8.wrap ((n : Int) / 1000 * 16) = (n : Int) / 1000 * 16 := IntWalk.u8_in _ (by omega)
  have S2 : IntKind.u8.wrap ((n : Int) / 10 % 10 * 16) = (n : Int) / 10 % 10 * 16 := IntWalk.u8_in _ (by omega)
  have hcv := conv_blk (n := 2) (c := 2) ((Blk.new (w.alloc (.cells #[.int .u8 ((n : Int) / 1000), .int .u8 ((n : Int) / 100 % 10), .int .u8 ((n : Int) / 10 % 10), .int .u8 ((n : Int) % 10)] 5)) 5 #[.int .u8 ((n : Int) / 1000 * 16 + (n : Int) / 100 % 10), .int .u8 ((n : Int) / 10 % 10 * 16 + (n : Int) % 10)]).drew) (by rw [hdr_len]; decide) (cells_three n (by omega))
  have x0 := (Blk.new w 5 #[.int .u8 ((n : Int) / 1000), .int .u8 ((n : Int) / 100 % 10), .int .u8 ((n : Int) / 10 % 10), .int .u8 ((n : Int) % 10)]).cell 0
  have x1 := (Blk.new w 5 #[.int .u8 ((n : Int) / 1000), .int .u8 ((n : Int) / 100 % 10), .int .u8 ((n : Int) / 10 % 10), .int .u8 ((n : Int) % 10)]).cell 1
  have x2 := (Blk.new w 5 #[.int .u8 ((n : Int) / 1000), .int .u8 ((n : Int) / 100 % 10), .int .u8 ((n : Int) / 10 % 10), .int .u8 ((n : Int) % 10)]).cell 2
  have x3 := (Blk.new w 5 #[.int .u8 ((n : Int) / 1000), .int .u8 ((n : Int) / 100 % 10), .int .u8 ((n : Int) / 10 % 10), .int .u8 ((n : Int) % 10)]).cell 3
  simp only [World.size_alloc] at hcv
  simp at x0 x1 x2 x3
  go_enter Try.func9, Try.ntmps9
  go_wp2_with (go_at_call 33; refine (may_any _ _ _).mono ?_; rintro e w' ⟨rfl, rfl⟩; rw [he.out])
  go_region_held3 (fun w' => w'.cell? ⟨w.heap.size, 0, none⟩ = some (.int .u8 ((n : Int) / 1000)) ∧ w'.cell? ⟨w.heap.size, 1, none⟩ = some (.int .u8 ((n : Int) / 100 % 10)) ∧ w'.cell? ⟨w.heap.size, 2, none⟩ = some (.int .u8 ((n : Int) / 10 % 10)) ∧ w'.cell? ⟨w.heap.size, 3, none⟩ = some (.int .u8 ((n : Int) % 10))) (go_keep) (fail)
  go_wp2
  go_ret2
  exact ⟨rfl, (((Below.refl _ _).alloc (Nat.le_refl _) _).drew).alloc (by simp) _⟩
set_option maxRecDepth 100000 in
set_option maxHeartbeats 1000000 in
theorem rwrap_two (m : Int) (s : ByteArray) (n : Nat) (hn : s.size = n) (e : mayB 2 m = true) (h0 : 0 < n) (h1 : (n : Int) ≤ m) (hm : m ≤ 9999) (w : World) :
    Calls Try.prog 10 #[.int .i64 2, .int .i64 m, .string s] w fun e w' => e = .returned (.tuple #[.string (bstr (hdrV 2 n) ++ s), .int .i64 0]) ∧ Below w.heap.size w w' := by
  have he := Lib.hid e
  have HN := Lib.hid hn
  clear e
  have d0 : ((n : Int) == 0) = false := by simp; omega
  have d1 : decide (m < (n : Int)) = false := decide_eq_false (by omega)
  have hbs : (bstr (hdrV 2 n)).size ≤ 4 := by rw [bstr_size, hdr_len]; decide
  have V0 : IntKind.u8.wrap (48 + (n : Int) / 1000) = 48 + (n : Int) / 1000 := IntWalk.u8_in _ (by omega)
  have V1 : IntKind.u8.wrap (48 + (n : Int) / 100 % 10) = 48 + (n : Int) / 100 % 10 := IntWalk.u8_in _ (by omega)
  have V2 : IntKind.u8.wrap (48 + (n : Int) / 10 % 10) = 48 + (n : Int) / 10 % 10 := IntWalk.u8_in _ (by omega)
  have V3 : IntKind.u8.wrap (48 + (n : Int) % 10) = 48 + (n : Int) % 10 := IntWalk.u8_in _ (by omega)
  have hcs : #[Value.int .u8 (48 + (n : Int) / 1000), .int .u8 (48 + (n : Int) / 100 % 10), .int .u8 (48 + (n : Int) / 10 % 10), .int .u8 (48 + (n : Int) % 10)].toList = bcells (hdrV 2 n) := by rw [← cells_two n (by omega)]; simp [Int.add_comm, Int.mul_comm]
  have hcv := conv_blk (n := 4) (c := 4) (Blk.new w 5 #[.int .u8 (48 + (n : Int) / 1000), .int .u8 (48 + (n : Int) / 100 % 10), .int .u8 (48 + (n : Int) / 10 % 10), .int .u8 (48 + (n : Int) % 10)]) (by rw [hdr_len]; decide) hcs
  clear hcs
  have e1 : s.toList.isEmpty = false := str_ne (by omega)
  go_enter Try.func10, Try.ntmps10
  go_wp2_with (go_at_call 34; refine (right_any _ _ _).mono ?_; rintro e w' ⟨rfl, rfl⟩; rw [he.out])
  go_ret2
  exact ⟨rfl, (Below.refl _ _).alloc (Nat.le_refl _) _⟩
set_option maxRecDepth 100000 in
set_option maxHeartbeats 1000000 in
theorem rwrap_three (m : Int) (s : ByteArray) (n : Nat) (hn : s.size = n) (e : mayB 3 m = true) (h0 : 0 < n) (h1 : (n : Int) ≤ m) (hm : m ≤ 9999) (w : World) :
    Calls Try.prog 10 #[.int .i64 3, .int .i64 m, .string s] w fun e w' => e = .returned (.tuple #[.string (bstr (hdrV 3 n) ++ s), .int .i64 0]) ∧ Below w.heap.size w w' := by
  have he := Lib.hid e
  have HN := Lib.hid hn
  clear e
  have d0 : ((n : Int) == 0) = false := by simp; omega
  have d1 : decide (m < (n : Int)) = false := decide_eq_false (by omega)
  have hbs : (bstr (hdrV 3 n)).size ≤ 4 := by rw [bstr_size, hdr_len]; decide
  have V0 : IntKind.u8.wrap (16 * ((n : Int) / 1000) + (n : Int) / 100 % 10) = 16 * ((n : Int) / 1000) + (n : Int) / 100 % 10 := IntWalk.u8_in _ (by omega)
  have V1 : IntKind.u8.wrap (16 * ((n : Int) / 10 % 10) + (n : Int) % 10) = 16 * ((n : Int) / 10 % 10) + (n : Int) % 10 := IntWalk.u8_in _ (by omega)
  have hcs : #[Value.int .u8 (16 * ((n : Int) / 1000) + (n : Int) / 100 % 10), .int .u8 (16 * ((n : Int) / 10 % 10) + (n : Int) % 10)].toList = bcells (hdrV 3 n) := by rw [← cells_three n (by omega)]; simp [Int.add_comm, Int.mul_comm]
  have hcv := conv_blk (n := 2) (c := 2) (Blk.new w 5 #[.int .u8 (16 * ((n : Int) / 1000) + (n : Int) / 100 % 10), .int .u8 (16 * ((n : Int) / 10 % 10) + (n : Int) % 10)]) (by rw [hdr_len]; decide) hcs
  clear hcs
  have e1 : s.toList.isEmpty = false := str_ne (by omega)
  go_enter Try.func10, Try.ntmps10
  go_wp2_with (go_at_call 34; refine (right_any _ _ _).mono ?_; rintro e w' ⟨rfl, rfl⟩; rw [he.out])
  go_ret2
  exact ⟨rfl, (Below.refl _ _).alloc (Nat.le_refl _) _⟩
set_option maxRecDepth 100000 in
set_option maxHeartbeats 1000000 in
theorem rwrap_four (m : Int) (s : ByteArray) (n : Nat) (hn : s.size = n) (e : mayB 4 m = true) (h0 : 0 < n) (h1 : (n : Int) ≤ m) (hm : m ≤ 9999) (w : World) :
    Calls Try.prog 10 #[.int .i64 4, .int .i64 m, .string s] w fun e w' => e = .returned (.tuple #[.string (bstr (hdrV 4 n) ++ s), .int .i64 0]) ∧ Below w.heap.size w w' := by
  have he := Lib.hid e
  have HN := Lib.hid hn
  clear e
  have d0 : ((n : Int) == 0) = false := by simp; omega
  have d1 : decide (m < (n : Int)) = false := decide_eq_false (by omega)
  have hbs : (bstr (hdrV 4 n)).size ≤ 4 := by rw [bstr_size, hdr_len]; decide
  have V0 : IntKind.u8.wrap (((n : Int) + 2) / 256) = ((n : Int) + 2) / 256 := IntWalk.u8_in _ (by omega)
  have V1 : IntKind.u8.wrap (((n : Int) + 2) % 256) = ((n : Int) + 2) % 256 := IntWalk.u8_in _ (by omega)
  have hcv := conv_blk (n := 2) (c := 2) (Blk.new w 5 #[.int .u8 (((n : Int) + 2) / 256), .int .u8 (((n : Int) + 2) % 256)]) (by rw [hdr_len]; decide) (cells_four n (by omega))
  have e1 : s.toList.isEmpty = false := str_ne (by omega)
  go_enter Try.func10, Try.ntmps10
  go_wp2_with (go_at_call 34; refine (right_any _ _ _).mono ?_; rintro e w' ⟨rfl, rfl⟩; rw [he.out])
  go_ret2
  exact ⟨rfl, (Below.refl _ _).alloc (Nat.le_refl _) _⟩
set_option maxRecDepth 100000 in
set_option maxHeartbeats 1000000 in
theorem rwrap_one (m : Int) (s : ByteArray) (n : Nat) (hn : s.size = n) (e : mayB 1 m = true) (h0 : 0 < n) (h1 : (n : Int) ≤ m) (hm : m ≤ 9999) (w : World) :
    Calls Try.prog 10 #[.int .i64 1, .int .i64 m, .string s] w fun e w' => e = .returned (.tuple #[.string (bstr (hdrV 1 n) ++ s), .int .i64 0]) ∧ Below w.heap.size w w' := by
  have he := Lib.hid e
  have HN := Lib.hid hn
  clear e
  have d0 : ((n : Int) == 0) = false := by simp; omega
  have d1 : decide (m < (n : Int)) = false := decide_eq_false (by omega)
  have hbs : (bstr (hdrV 1 n)).size ≤ 4 := by rw [bstr_size, hdr_len]; decide
  have V0 : IntKind.u8.wrap ((n : Int) / 256) = (n : Int) / 256 := IntWalk.u8_in _ (by omega)
  have V1 : IntKind.u8.wrap ((n : Int) % 256) = (n : Int) % 256 := IntWalk.u8_in _ (by omega)
  have hcv := conv_blk (n := 2) (c := 2) (Blk.new w 5 #[.int .u8 ((n : Int) / 256), .int .u8 ((n : Int) % 256)]) (by rw [hdr_len]; decide) (cells_one n (by omega))
  have e1 : s.toList.isEmpty = false := str_ne (by omega)
  go_enter Try.func10, Try.ntmps10
  go_wp2_with (go_at_call 34; refine (right_any _ _ _).mono ?_; rintro e w' ⟨rfl, rfl⟩; rw [he.out])
  go_ret2
  exact ⟨rfl, (Below.refl _ _).alloc (Nat.le_refl _) _⟩
set_option maxHeartbeats 400000 in
theorem wrap_no (h m : Int) (s : ByteArray) (hs : s.size ≤ 9223372036854775807) (e : wrapE h m s.size ≠ 0) (w : World) :
    Calls Try.prog 9 #[.int .i64 h, .int .i64 m, .string s] w fun v w' => v = .returned (.tuple #[.string ByteArray.empty, .int .i64 (wrapE h m s.size)]) ∧ Below w.heap.size w w' := by
  unfold wrapE at e ⊢
  by_cases hm : mayB h m = false
  · rw [if_pos hm]
    have he := Lib.hid hm
    clear e hm
    go_enter Try.func9, Try.ntmps9
    go_wp2_with (go_at_call 33; refine (may_any _ _ _).mono ?_; rintro e w' ⟨rfl, rfl⟩; rw [he.out])
    go_ret2
    exact ⟨rfl, Below.refl _ _⟩
  · rw [if_neg hm] at e ⊢
    have he : Hid (mayB h m = true) := by show _ = _; simpa using hm
    by_cases h0 : s.size = 0
    · rw [if_pos h0] at e ⊢
      have d0 : ((s.size : Int) == 0) = true := by simp [h0]
      clear e hm h0
      go_enter Try.func9, Try.ntmps9
      go_wp2_with (go_at_call 33; refine (may_any _ _ _).mono ?_; rintro e w' ⟨rfl, rfl⟩; rw [he.out])
      go_ret2
      exact ⟨rfl, Below.refl _ _⟩
    · rw [if_neg h0] at e ⊢
      by_cases h1 : m < (s.size : Int)
      · rw [if_pos h1]
        have d0 : ((s.size : Int) == 0) = false := by rw [beq_eq_false_iff_ne]; omega
        have d1 : decide (m < (s.size : Int)) = true := decide_eq_true h1
        clear e hm h0
        go_enter Try.func9, Try.ntmps9
        go_wp2_with (go_at_call 33; refine (may_any _ _ _).mono ?_; rintro e w' ⟨rfl, rfl⟩; rw [he.out])
        go_ret2
        exact ⟨rfl, Below.refl _ _⟩
      · rw [if_neg h1] at e; exact absurd rfl e
set_option maxHeartbeats 400000 in
theorem rwrap_no (h m : Int) (s : ByteArray) (hs : s.size ≤ 9223372036854775807) (e : wrapE h m s.size ≠ 0) (w : World) :
    Calls Try.prog 10 #[.int .i64 h, .int .i64 m, .string s] w fun v w' => v = .returned (.tuple #[.string ByteArray.empty, .int .i64 (wrapE h m s.size)]) ∧ Below w.heap.size w w' := by
  unfold wrapE at e ⊢
  by_cases hm : mayB h m = false
  · rw [if_pos hm]
    have he := Lib.hid hm
    clear e hm
    go_enter Try.func10, Try.ntmps10
    go_wp2_with (go_at_call 34; refine (right_any _ _ _).mono ?_; rintro e w' ⟨rfl, rfl⟩; rw [he.out])
    go_ret2
    exact ⟨rfl, Below.refl _ _⟩
  · rw [if_neg hm] at e ⊢
    have he : Hid (mayB h m = true) := by show _ = _; simpa using hm
    by_cases h0 : s.size = 0
    · rw [if_pos h0] at e ⊢
      have d0 : s.toList.isEmpty = true := str_nil h0
      clear e hm h0
      go_enter Try.func10, Try.ntmps10
      go_wp2_with (go_at_call 34; refine (right_any _ _ _).mono ?_; rintro e w' ⟨rfl, rfl⟩; rw [he.out])
      go_ret2
      exact ⟨rfl, Below.refl _ _⟩
    · rw [if_neg h0] at e ⊢
      by_cases h1 : m < (s.size : Int)
      · rw [if_pos h1]
        have d0 : s.toList.isEmpty = false := str_ne h0
        have d1 : decide (m < (s.size : Int)) = true := decide_eq_true h1
        clear e hm h0
        go_enter Try.func10, Try.ntmps10
        go_wp2_with (go_at_call 34; refine (right_any _ _ _).mono ?_; rintro e w' ⟨rfl, rfl⟩; rw [he.out])
        go_ret2
        exact ⟨rfl, Below.refl _ _⟩
      · rw [if_neg h1] at e; exact absurd rfl e
theorem wrapE_ok {h m : Int} {n : Nat} (e : wrapE h m n = 0) : mayB h m = true ∧ 0 < n ∧ (n : Int) ≤ m := by
  unfold wrapE at e
  by_cases hm : mayB h m = false
  · rw [if_pos hm] at e; cases e
  · rw [if_neg hm] at e
    by_cases h0 : n = 0
    · rw [if_pos h0] at e; cases e
    · rw [if_neg h0] at e
      by_cases h1 : m < (n : Int)
      · rw [if_pos h1] at e; cases e
      · exact ⟨by simpa using hm, by omega, by omega⟩
theorem wrap_any (h m : Int) (s : ByteArray) (hs : s.size ≤ 9223372036854775807) (w : World) :
    Calls Try.prog 9 #[.int .i64 h, .int .i64 m, .string s] w fun v w' => v = .returned (wrapW h m s) ∧ Below w.heap.size w w' := by
  unfold wrapW wrapB
  by_cases e : wrapE h m s.size = 0
  · rw [if_pos e, e]
    obtain ⟨hm, h0, h1⟩ := wrapE_ok e
    obtain ⟨q1, q2, q3, q4⟩ := may_iff hm
    have hh : h = 1 ∨ h = 2 ∨ h = 3 ∨ h = 4 := by omega
    rcases hh with rfl | rfl | rfl | rfl
    · exact wrap_one m s _ rfl hm h0 h1 q4 w
    · exact wrap_two m s _ rfl hm h0 h1 q4 w
    · exact wrap_three m s _ rfl hm h0 h1 q4 w
    · exact wrap_four m s _ rfl hm h0 h1 q4 w
  · rw [if_neg e]; exact wrap_no h m s hs e w
theorem rwrap_any (h m : Int) (s : ByteArray) (hs : s.size ≤ 9223372036854775807) (w : World) :
    Calls Try.prog 10 #[.int .i64 h, .int .i64 m, .string s] w fun v w' => v = .returned (wrapW h m s) ∧ Below w.heap.size w w' := by
  unfold wrapW wrapB
  by_cases e : wrapE h m s.size = 0
  · rw [if_pos e, e]
    obtain ⟨hm, h0, h1⟩ := wrapE_ok e
    obtain ⟨q1, q2, q3, q4⟩ := may_iff hm
    have hh : h = 1 ∨ h = 2 ∨ h = 3 ∨ h = 4 := by omega
    rcases hh with rfl | rfl | rfl | rfl
    · exact rwrap_one m s _ rfl hm h0 h1 q4 w
    · exact rwrap_two m s _ rfl hm h0 h1 q4 w
    · exact rwrap_three m s _ rfl hm h0 h1 q4 w
    · exact rwrap_four m s _ rfl hm h0 h1 q4 w
  · rw [if_neg e]; exact rwrap_no h m s hs e w
end Go.Proofs.Ytpipcklnicmpfaa
