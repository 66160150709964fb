/-
  SessionPlays: both halves of the walk.
-/
import Derived.Test.YtcdikjomiomnpaaPlays
namespace Go.Proofs.Ytcdikjomiomnpaa
open Go.RowKit
theorem plays_walk (ro : Int) (_ : -9223372036854775808 ≤ ro) (_ : ro ≤ 9223372036854775807) (ec : Int) (r1 : -9223372036854775808 ≤ ec) (r2 : ec ≤ 9223372036854775807) (an : Int) (r3 : -9223372036854775808 ≤ an) (r4 : an ≤ 9223372036854775807)
    (A : Option Addr) (la ca : Nat) {w : World} (h : Script w w.heap.size A la ∧ la ≤ 9223372036854775807) :
    Calls Try.prog 6 #[.int .i64 ro, .int .i64 ec, .int .i64 an, .slice A la ca] w fun e w' => e = .returned (.bool true) ∧ Below w.heap.size w w' := by
  cases hb : badN ro ec an
  · exact plays_ok ro ec an A la ca w r1 r2 r3 r4 _ _ rfl rfl (pickP_lo _ _ (by omega)) (pickP_hi _ _ (by omega)) (pickP_lo _ _ (by omega)) (pickP_hi _ _ (by omega)) hb h.1 h.2
  · exact plays_bad ro ec an A la ca w r1 r2 r3 r4 _ _ rfl rfl (pickP_lo _ _ (by omega)) (pickP_hi _ _ (by omega)) (pickP_lo _ _ (by omega)) (pickP_hi _ _ (by omega)) hb h.1 h.2
end Go.Proofs.Ytcdikjomiomnpaa
