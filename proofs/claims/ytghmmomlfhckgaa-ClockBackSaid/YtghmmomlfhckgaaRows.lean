/-
  No cell of these rows narrows 'for every input' (looked for: loops, veiled, ifaces, maps, wideKeys, modest, calm, conditions, laid).
  DERIVED. THE GIVEN ROWS OF THIS SEAT. 8 by the template 'for every input the law returns true; each argument reads behind the call as it read before'; 0 by the template 'total and deterministic' (their statements: YtghmmomlfhckgaaTotals.lean).
  GIVEN WITH THE SEED: the statements are not yours to turn. If you find one false, say at which input.
  Laid BY PROGRAM, IN A SANDBOX (cutbox-rows.mjs): the forced cells as the released guide's own fill.sh prints them over the translation b0cb5a087913d0ba… (all of the seat's roots in one cut). By AI agents, Wed Nov 11 2026. No macro, syntax, notation, axiom, sorry.
-/
import Derived.Test.YtghmmomlfhckgaaChecked
import GoSem.Claim
import GoSem.ClaimJoined
import GoSem.ClaimMapViews
import Derived.JoinedTies
import Derived.KernelRfl
namespace Go.Proofs.Ytghmmomlfhckgaa
/- THE CELL 'sum', in the pinned program and in every row, IS THE sha256 OF THE DUMP (.gsa) THAT YtghmmomlfhckgaaProg.lean LOADS. Nothing in Lean hashes anything: it is a label: what it is worth is what the hold of that sum in a sandbox is worth. -/
noncomputable def Try.pinned : Pinned := { name := "ytghmmomlfhckgaa", sum := "b0cb5a087913d0ba952737563d195b0b045e7ab7f093f5e125a491bb75872ba3", checked := Try.checked }
namespace Rows
def none {H : Type} : Left H := { results := [], args := [] }

/-- 'turnstilelaw8.ClockDates': WHATEVER THE INPUT: true; the input reads as it did. -/
def clockDatesSpec : ChangeSpec := { name := "clockDates", fn := fun _ => fun
  | [d1, d2] => { results := [.lit (.bool true)], args := [d1, d2] }
  | _ => none }
def clockDatesRow : OpenClaim := { program := "ytghmmomlfhckgaa", sum := "b0cb5a087913d0ba952737563d195b0b045e7ab7f093f5e125a491bb75872ba3", func := "turnstile/turnstilelaw8.ClockDates", spec := "clockDates", apart := false }
def ClockDatesSaid : Prop := clockDatesRow.holds Try.pinned (OpenSpec.ofChange clockDatesSpec)

/-- ITS FALSE NEIGHBOUR: 'it returns false'. Refute it at one input. -/
def clockDatesWrong : ChangeSpec := { name := "clockDates", fn := fun _ => fun
  | [d1, d2] => { results := [.lit (.bool false)], args := [d1, d2] }
  | _ => none }
def ClockDatesWrongFalsely : Prop := clockDatesRow.holds Try.pinned (OpenSpec.ofChange clockDatesWrong)

/-- 'turnstilelaw8.ClockNear': WHATEVER THE INPUT: true; the input reads as it did. -/
def clockNearSpec : ChangeSpec := { name := "clockNear", fn := fun _ => fun
  | [d1, d2] => { results := [.lit (.bool true)], args := [d1, d2] }
  | _ => none }
def clockNearRow : OpenClaim := { program := "ytghmmomlfhckgaa", sum := "b0cb5a087913d0ba952737563d195b0b045e7ab7f093f5e125a491bb75872ba3", func := "turnstile/turnstilelaw8.ClockNear", spec := "clockNear", apart := false }
def ClockNearSaid : Prop := clockNearRow.holds Try.pinned (OpenSpec.ofChange clockNearSpec)

/-- ITS FALSE NEIGHBOUR: 'it returns false'. Refute it at one input. -/
def clockNearWrong : ChangeSpec := { name := "clockNear", fn := fun _ => fun
  | [d1, d2] => { results := [.lit (.bool false)], args := [d1, d2] }
  | _ => none }
def ClockNearWrongFalsely : Prop := clockNearRow.holds Try.pinned (OpenSpec.ofChange clockNearWrong)

/-- 'turnstilelaw8.ClockRises': WHATEVER THE INPUT: true; the input reads as it did. -/
def clockRisesSpec : ChangeSpec := { name := "clockRises", fn := fun _ => fun
  | [d1, d2] => { results := [.lit (.bool true)], args := [d1, d2] }
  | _ => none }
def clockRisesRow : OpenClaim := { program := "ytghmmomlfhckgaa", sum := "b0cb5a087913d0ba952737563d195b0b045e7ab7f093f5e125a491bb75872ba3", func := "turnstile/turnstilelaw8.ClockRises", spec := "clockRises", apart := false }
def ClockRisesSaid : Prop := clockRisesRow.holds Try.pinned (OpenSpec.ofChange clockRisesSpec)

/-- ITS FALSE NEIGHBOUR: 'it returns false'. Refute it at one input. -/
def clockRisesWrong : ChangeSpec := { name := "clockRises", fn := fun _ => fun
  | [d1, d2] => { results := [.lit (.bool false)], args := [d1, d2] }
  | _ => none }
def ClockRisesWrongFalsely : Prop := clockRisesRow.holds Try.pinned (OpenSpec.ofChange clockRisesWrong)

/-- 'turnstilelaw8.ClockNearest': WHATEVER THE INPUT: true; the input reads as it did. -/
def clockNearestSpec : ChangeSpec := { name := "clockNearest", fn := fun _ => fun
  | [d1, d2] => { results := [.lit (.bool true)], args := [d1, d2] }
  | _ => none }
def clockNearestRow : OpenClaim := { program := "ytghmmomlfhckgaa", sum := "b0cb5a087913d0ba952737563d195b0b045e7ab7f093f5e125a491bb75872ba3", func := "turnstile/turnstilelaw8.ClockNearest", spec := "clockNearest", apart := false }
def ClockNearestSaid : Prop := clockNearestRow.holds Try.pinned (OpenSpec.ofChange clockNearestSpec)

/-- ITS FALSE NEIGHBOUR: 'it returns false'. Refute it at one input. -/
def clockNearestWrong : ChangeSpec := { name := "clockNearest", fn := fun _ => fun
  | [d1, d2] => { results := [.lit (.bool false)], args := [d1, d2] }
  | _ => none }
def ClockNearestWrongFalsely : Prop := clockNearestRow.holds Try.pinned (OpenSpec.ofChange clockNearestWrong)

/-- 'turnstilelaw8.ClockBack': WHATEVER THE INPUT: true; the input reads as it did. -/
def clockBackSpec : ChangeSpec := { name := "clockBack", fn := fun _ => fun
  | [d] => { results := [.lit (.bool true)], args := [d] }
  | _ => none }
def clockBackRow : OpenClaim := { program := "ytghmmomlfhckgaa", sum := "b0cb5a087913d0ba952737563d195b0b045e7ab7f093f5e125a491bb75872ba3", func := "turnstile/turnstilelaw8.ClockBack", spec := "clockBack", apart := false }
def ClockBackSaid : Prop := clockBackRow.holds Try.pinned (OpenSpec.ofChange clockBackSpec)

/-- ITS FALSE NEIGHBOUR: 'it returns false'. Refute it at one input. -/
def clockBackWrong : ChangeSpec := { name := "clockBack", fn := fun _ => fun
  | [d] => { results := [.lit (.bool false)], args := [d] }
  | _ => none }
def ClockBackWrongFalsely : Prop := clockBackRow.holds Try.pinned (OpenSpec.ofChange clockBackWrong)

/-- 'turnstilelaw8.ClockLast': WHATEVER THE INPUT: true; the input reads as it did. -/
def clockLastSpec : ChangeSpec := { name := "clockLast", fn := fun _ => fun
  | [d] => { results := [.lit (.bool true)], args := [d] }
  | _ => none }
def clockLastRow : OpenClaim := { program := "ytghmmomlfhckgaa", sum := "b0cb5a087913d0ba952737563d195b0b045e7ab7f093f5e125a491bb75872ba3", func := "turnstile/turnstilelaw8.ClockLast", spec := "clockLast", apart := false }
def ClockLastSaid : Prop := clockLastRow.holds Try.pinned (OpenSpec.ofChange clockLastSpec)

/-- ITS FALSE NEIGHBOUR: 'it returns false'. Refute it at one input. -/
def clockLastWrong : ChangeSpec := { name := "clockLast", fn := fun _ => fun
  | [d] => { results := [.lit (.bool false)], args := [d] }
  | _ => none }
def ClockLastWrongFalsely : Prop := clockLastRow.holds Try.pinned (OpenSpec.ofChange clockLastWrong)

/-- 'turnstilelaw8.ClockTells': WHATEVER THE INPUT: true; the input reads as it did. -/
def clockTellsSpec : ChangeSpec := { name := "clockTells", fn := fun _ => fun
  | [d1, d2] => { results := [.lit (.bool true)], args := [d1, d2] }
  | _ => none }
def clockTellsRow : OpenClaim := { program := "ytghmmomlfhckgaa", sum := "b0cb5a087913d0ba952737563d195b0b045e7ab7f093f5e125a491bb75872ba3", func := "turnstile/turnstilelaw8.ClockTells", spec := "clockTells", apart := false }
def ClockTellsSaid : Prop := clockTellsRow.holds Try.pinned (OpenSpec.ofChange clockTellsSpec)

/-- ITS FALSE NEIGHBOUR: 'it returns false'. Refute it at one input. -/
def clockTellsWrong : ChangeSpec := { name := "clockTells", fn := fun _ => fun
  | [d1, d2] => { results := [.lit (.bool false)], args := [d1, d2] }
  | _ => none }
def ClockTellsWrongFalsely : Prop := clockTellsRow.holds Try.pinned (OpenSpec.ofChange clockTellsWrong)

/-- 'turnstilelaw8.ClockMonths': WHATEVER THE INPUT: true; the input reads as it did. -/
def clockMonthsSpec : ChangeSpec := { name := "clockMonths", fn := fun _ => fun
  | [d1, d2, d3, d4] => { results := [.lit (.bool true)], args := [d1, d2, d3, d4] }
  | _ => none }
def clockMonthsRow : OpenClaim := { program := "ytghmmomlfhckgaa", sum := "b0cb5a087913d0ba952737563d195b0b045e7ab7f093f5e125a491bb75872ba3", func := "turnstile/turnstilelaw8.ClockMonths", spec := "clockMonths", apart := false }
def ClockMonthsSaid : Prop := clockMonthsRow.holds Try.pinned (OpenSpec.ofChange clockMonthsSpec)

/-- ITS FALSE NEIGHBOUR: 'it returns false'. Refute it at one input. -/
def clockMonthsWrong : ChangeSpec := { name := "clockMonths", fn := fun _ => fun
  | [d1, d2, d3, d4] => { results := [.lit (.bool false)], args := [d1, d2, d3, d4] }
  | _ => none }
def ClockMonthsWrongFalsely : Prop := clockMonthsRow.holds Try.pinned (OpenSpec.ofChange clockMonthsWrong)

/- THE SECOND FORM. 'bulk': how many values and letters a reading holds, each counted each time it is reached (what is shared counts as often as it is met; a slice's spare places count too). A statement '..UptoSaid' is the law's where the arguments, and the package variables that the reading takes, are together of bulk at most 1048576: NARROWER than '..Said'. Prove '..Said' where nothing that the law and all that it calls make is longer than what came in: it says more and counts as full. Else prove '..UptoSaid'. A law counts once. -/
mutual
def uptoBulk {H : Type} : DataW H → Nat
  | .lit (.string bytes) => bytes.length + 1
  | .lit _ => 1
  | .nil => 1
  | .ptr d => uptoBulk d + 1
  | .slice elems spare => uptoBulkAll elems + uptoBulkAll spare + 1
  | .agg parts => uptoBulkAll parts + 1
  | .iface _ d => uptoBulk d + 1
  | .map entries => uptoBulkEntries entries + 1
  | .held _ => 1
def uptoBulkAll {H : Type} : List (DataW H) → Nat
  | [] => 0
  | d :: r => uptoBulk d + uptoBulkAll r
def uptoBulkEntries {H : Type} : List (Lit × DataW H) → Nat
  | [] => 0
  | x :: r => uptoBulkEntry x + uptoBulkEntries r
def uptoBulkEntry {H : Type} : Lit × DataW H → Nat
  | (.string bytes, d) => bytes.length + uptoBulk d + 1
  | (_, d) => uptoBulk d + 1
 end
def uptoSmall : (H : Type) → List (DataW H) → Bool := fun _ ds => decide (uptoBulkAll ds ≤ 1048576)
def OpenSpec.upto (s : _root_.Go.ChangeSpec) : _root_.Go.OpenSpec := { _root_.Go.OpenSpec.ofChange s with cond := some uptoSmall }

/-- 'turnstilelaw8.ClockDates', WHERE WHAT IT READS IS OF BULK AT MOST 1048576: true; the input reads as it did. -/
def clockDatesUptoRow : OpenClaim := { program := "ytghmmomlfhckgaa", sum := "b0cb5a087913d0ba952737563d195b0b045e7ab7f093f5e125a491bb75872ba3", func := "turnstile/turnstilelaw8.ClockDates", spec := "clockDates", apart := false, narrowed := true }
def ClockDatesUptoSaid : Prop := clockDatesUptoRow.holds Try.pinned (OpenSpec.upto clockDatesSpec)

/-- 'turnstilelaw8.ClockNear', WHERE WHAT IT READS IS OF BULK AT MOST 1048576: true; the input reads as it did. -/
def clockNearUptoRow : OpenClaim := { program := "ytghmmomlfhckgaa", sum := "b0cb5a087913d0ba952737563d195b0b045e7ab7f093f5e125a491bb75872ba3", func := "turnstile/turnstilelaw8.ClockNear", spec := "clockNear", apart := false, narrowed := true }
def ClockNearUptoSaid : Prop := clockNearUptoRow.holds Try.pinned (OpenSpec.upto clockNearSpec)

/-- 'turnstilelaw8.ClockRises', WHERE WHAT IT READS IS OF BULK AT MOST 1048576: true; the input reads as it did. -/
def clockRisesUptoRow : OpenClaim := { program := "ytghmmomlfhckgaa", sum := "b0cb5a087913d0ba952737563d195b0b045e7ab7f093f5e125a491bb75872ba3", func := "turnstile/turnstilelaw8.ClockRises", spec := "clockRises", apart := false, narrowed := true }
def ClockRisesUptoSaid : Prop := clockRisesUptoRow.holds Try.pinned (OpenSpec.upto clockRisesSpec)

/-- 'turnstilelaw8.ClockNearest', WHERE WHAT IT READS IS OF BULK AT MOST 1048576: true; the input reads as it did. -/
def clockNearestUptoRow : OpenClaim := { program := "ytghmmomlfhckgaa", sum := "b0cb5a087913d0ba952737563d195b0b045e7ab7f093f5e125a491bb75872ba3", func := "turnstile/turnstilelaw8.ClockNearest", spec := "clockNearest", apart := false, narrowed := true }
def ClockNearestUptoSaid : Prop := clockNearestUptoRow.holds Try.pinned (OpenSpec.upto clockNearestSpec)

/-- 'turnstilelaw8.ClockBack', WHERE WHAT IT READS IS OF BULK AT MOST 1048576: true; the input reads as it did. -/
def clockBackUptoRow : OpenClaim := { program := "ytghmmomlfhckgaa", sum := "b0cb5a087913d0ba952737563d195b0b045e7ab7f093f5e125a491bb75872ba3", func := "turnstile/turnstilelaw8.ClockBack", spec := "clockBack", apart := false, narrowed := true }
def ClockBackUptoSaid : Prop := clockBackUptoRow.holds Try.pinned (OpenSpec.upto clockBackSpec)

/-- 'turnstilelaw8.ClockLast', WHERE WHAT IT READS IS OF BULK AT MOST 1048576: true; the input reads as it did. -/
def clockLastUptoRow : OpenClaim := { program := "ytghmmomlfhckgaa", sum := "b0cb5a087913d0ba952737563d195b0b045e7ab7f093f5e125a491bb75872ba3", func := "turnstile/turnstilelaw8.ClockLast", spec := "clockLast", apart := false, narrowed := true }
def ClockLastUptoSaid : Prop := clockLastUptoRow.holds Try.pinned (OpenSpec.upto clockLastSpec)

/-- 'turnstilelaw8.ClockTells', WHERE WHAT IT READS IS OF BULK AT MOST 1048576: true; the input reads as it did. -/
def clockTellsUptoRow : OpenClaim := { program := "ytghmmomlfhckgaa", sum := "b0cb5a087913d0ba952737563d195b0b045e7ab7f093f5e125a491bb75872ba3", func := "turnstile/turnstilelaw8.ClockTells", spec := "clockTells", apart := false, narrowed := true }
def ClockTellsUptoSaid : Prop := clockTellsUptoRow.holds Try.pinned (OpenSpec.upto clockTellsSpec)

/-- 'turnstilelaw8.ClockMonths', WHERE WHAT IT READS IS OF BULK AT MOST 1048576: true; the input reads as it did. -/
def clockMonthsUptoRow : OpenClaim := { program := "ytghmmomlfhckgaa", sum := "b0cb5a087913d0ba952737563d195b0b045e7ab7f093f5e125a491bb75872ba3", func := "turnstile/turnstilelaw8.ClockMonths", spec := "clockMonths", apart := false, narrowed := true }
def ClockMonthsUptoSaid : Prop := clockMonthsUptoRow.holds Try.pinned (OpenSpec.upto clockMonthsSpec)

end Rows
end Go.Proofs.Ytghmmomlfhckgaa
