/-
  No cell of these rows narrows 'for every input' (looked for: loops, veiled, ifaces, maps, wideKeys, modest, calm, conditions, laid).
  DERIVED. THE GIVEN ROWS OF THIS SEAT. 6 by the template 'for every input the law returns true; each argument reads behind the call as it read before'; 0 by the template 'total and deterministic' (their statements: YtcdikjomiomnpaaTotals.lean).
  GIVEN WITH THE SEED: the statements are not yours to turn. If you find one false, say at which input.
  Laid BY PROGRAM, IN A SANDBOX (cutbox-rows.mjs): the forced cells as the released guide's own fill.sh prints them over the translation 4ae535949a725781… (all of the seat's roots in one cut). By AI agents, Wed Nov 11 2026. No macro, syntax, notation, axiom, sorry.
-/
import Derived.Test.YtcdikjomiomnpaaChecked
import GoSem.Claim
import GoSem.ClaimJoined
import GoSem.ClaimMapViews
import Derived.JoinedTies
import Derived.KernelRfl
namespace Go.Proofs.Ytcdikjomiomnpaa
/- THE CELL 'sum', in the pinned program and in every row, IS THE sha256 OF THE DUMP (.gsa) THAT YtcdikjomiomnpaaProg.lean LOADS. Nothing in Lean hashes anything: it is a label: what it is worth is what the hold of that sum in a sandbox is worth. -/
noncomputable def Try.pinned : Pinned := { name := "ytcdikjomiomnpaa", sum := "4ae535949a72578157873839a31c0cc4bdf2bde75670c417ddcd6009c4d99ec2", checked := Try.checked }
namespace Rows
def none {H : Type} : Left H := { results := [], args := [] }

/-- 'turnstilelaw16.SessionQuiet': WHATEVER THE INPUT: true; the input reads as it did. -/
def sessionQuietSpec : ChangeSpec := { name := "sessionQuiet", fn := fun _ => fun
  | [d1, d2, d3, d4] => { results := [.lit (.bool true)], args := [d1, d2, d3, d4] }
  | _ => none }
def sessionQuietRow : OpenClaim := { program := "ytcdikjomiomnpaa", sum := "4ae535949a72578157873839a31c0cc4bdf2bde75670c417ddcd6009c4d99ec2", func := "turnstile/turnstilelaw16.SessionQuiet", spec := "sessionQuiet", unfollowed := true, recurses := true, apart := false }
def SessionQuietSaid : Prop := sessionQuietRow.holds Try.pinned (OpenSpec.ofChange sessionQuietSpec)

/-- ITS FALSE NEIGHBOUR: 'it returns false'. Refute it at one input. -/
def sessionQuietWrong : ChangeSpec := { name := "sessionQuiet", fn := fun _ => fun
  | [d1, d2, d3, d4] => { results := [.lit (.bool false)], args := [d1, d2, d3, d4] }
  | _ => none }
def SessionQuietWrongFalsely : Prop := sessionQuietRow.holds Try.pinned (OpenSpec.ofChange sessionQuietWrong)

/-- 'turnstilelaw16.SessionLost': WHATEVER THE INPUT: true; the input reads as it did. -/
def sessionLostSpec : ChangeSpec := { name := "sessionLost", fn := fun _ => fun
  | [d1, d2] => { results := [.lit (.bool true)], args := [d1, d2] }
  | _ => none }
def sessionLostRow : OpenClaim := { program := "ytcdikjomiomnpaa", sum := "4ae535949a72578157873839a31c0cc4bdf2bde75670c417ddcd6009c4d99ec2", func := "turnstile/turnstilelaw16.SessionLost", spec := "sessionLost", unfollowed := true, recurses := true, apart := false }
def SessionLostSaid : Prop := sessionLostRow.holds Try.pinned (OpenSpec.ofChange sessionLostSpec)

/-- ITS FALSE NEIGHBOUR: 'it returns false'. Refute it at one input. -/
def sessionLostWrong : ChangeSpec := { name := "sessionLost", fn := fun _ => fun
  | [d1, d2] => { results := [.lit (.bool false)], args := [d1, d2] }
  | _ => none }
def SessionLostWrongFalsely : Prop := sessionLostRow.holds Try.pinned (OpenSpec.ofChange sessionLostWrong)

/-- 'turnstilelaw16.SessionSigns': WHATEVER THE INPUT: true; the input reads as it did. -/
def sessionSignsSpec : ChangeSpec := { name := "sessionSigns", fn := fun _ => fun
  | [d1, d2, d3, d4, d5] => { results := [.lit (.bool true)], args := [d1, d2, d3, d4, d5] }
  | _ => none }
def sessionSignsRow : OpenClaim := { program := "ytcdikjomiomnpaa", sum := "4ae535949a72578157873839a31c0cc4bdf2bde75670c417ddcd6009c4d99ec2", func := "turnstile/turnstilelaw16.SessionSigns", spec := "sessionSigns", unfollowed := true, recurses := true, apart := false }
def SessionSignsSaid : Prop := sessionSignsRow.holds Try.pinned (OpenSpec.ofChange sessionSignsSpec)

/-- ITS FALSE NEIGHBOUR: 'it returns false'. Refute it at one input. -/
def sessionSignsWrong : ChangeSpec := { name := "sessionSigns", fn := fun _ => fun
  | [d1, d2, d3, d4, d5] => { results := [.lit (.bool false)], args := [d1, d2, d3, d4, d5] }
  | _ => none }
def SessionSignsWrongFalsely : Prop := sessionSignsRow.holds Try.pinned (OpenSpec.ofChange sessionSignsWrong)

/-- 'turnstilelaw16.SessionPlays': WHATEVER THE INPUT: true; the input reads as it did. -/
def sessionPlaysSpec : ChangeSpec := { name := "sessionPlays", fn := fun _ => fun
  | [d1, d2, d3, d4] => { results := [.lit (.bool true)], args := [d1, d2, d3, d4] }
  | _ => none }
def sessionPlaysRow : OpenClaim := { program := "ytcdikjomiomnpaa", sum := "4ae535949a72578157873839a31c0cc4bdf2bde75670c417ddcd6009c4d99ec2", func := "turnstile/turnstilelaw16.SessionPlays", spec := "sessionPlays", unfollowed := true, recurses := true, apart := false }
def SessionPlaysSaid : Prop := sessionPlaysRow.holds Try.pinned (OpenSpec.ofChange sessionPlaysSpec)

/-- ITS FALSE NEIGHBOUR: 'it returns false'. Refute it at one input. -/
def sessionPlaysWrong : ChangeSpec := { name := "sessionPlays", fn := fun _ => fun
  | [d1, d2, d3, d4] => { results := [.lit (.bool false)], args := [d1, d2, d3, d4] }
  | _ => none }
def SessionPlaysWrongFalsely : Prop := sessionPlaysRow.holds Try.pinned (OpenSpec.ofChange sessionPlaysWrong)

/-- 'turnstilelaw16.SessionAcquirer': WHATEVER THE INPUT: true; the input reads as it did. -/
def sessionAcquirerSpec : ChangeSpec := { name := "sessionAcquirer", fn := fun _ => fun
  | [d1, d2, d3] => { results := [.lit (.bool true)], args := [d1, d2, d3] }
  | _ => none }
def sessionAcquirerRow : OpenClaim := { program := "ytcdikjomiomnpaa", sum := "4ae535949a72578157873839a31c0cc4bdf2bde75670c417ddcd6009c4d99ec2", func := "turnstile/turnstilelaw16.SessionAcquirer", spec := "sessionAcquirer", unfollowed := true, recurses := true, apart := false }
def SessionAcquirerSaid : Prop := sessionAcquirerRow.holds Try.pinned (OpenSpec.ofChange sessionAcquirerSpec)

/-- ITS FALSE NEIGHBOUR: 'it returns false'. Refute it at one input. -/
def sessionAcquirerWrong : ChangeSpec := { name := "sessionAcquirer", fn := fun _ => fun
  | [d1, d2, d3] => { results := [.lit (.bool false)], args := [d1, d2, d3] }
  | _ => none }
def SessionAcquirerWrongFalsely : Prop := sessionAcquirerRow.holds Try.pinned (OpenSpec.ofChange sessionAcquirerWrong)

/-- 'turnstilelaw16.SessionAnew': WHATEVER THE INPUT: true; the input reads as it did. -/
def sessionAnewSpec : ChangeSpec := { name := "sessionAnew", fn := fun _ => fun
  | [d1, d2, d3, d4, d5] => { results := [.lit (.bool true)], args := [d1, d2, d3, d4, d5] }
  | _ => none }
def sessionAnewRow : OpenClaim := { program := "ytcdikjomiomnpaa", sum := "4ae535949a72578157873839a31c0cc4bdf2bde75670c417ddcd6009c4d99ec2", func := "turnstile/turnstilelaw16.SessionAnew", spec := "sessionAnew", unfollowed := true, recurses := true, apart := false }
def SessionAnewSaid : Prop := sessionAnewRow.holds Try.pinned (OpenSpec.ofChange sessionAnewSpec)

/-- ITS FALSE NEIGHBOUR: 'it returns false'. Refute it at one input. -/
def sessionAnewWrong : ChangeSpec := { name := "sessionAnew", fn := fun _ => fun
  | [d1, d2, d3, d4, d5] => { results := [.lit (.bool false)], args := [d1, d2, d3, d4, d5] }
  | _ => none }
def SessionAnewWrongFalsely : Prop := sessionAnewRow.holds Try.pinned (OpenSpec.ofChange sessionAnewWrong)

/- THE SECOND FORM. 'bulk': how many values and letters a reading holds, each counted each time it is reached (what is shared counts as often as it is met; a slice's spare places count too). A statement '..UptoSaid' is the law's where the arguments, and the package variables that the reading takes, are together of bulk at most 1048576: NARROWER than '..Said'. Prove '..Said' where nothing that the law and all that it calls make is longer than what came in: it says more and counts as full. Else prove '..UptoSaid'. A law counts once. -/
mutual
def uptoBulk {H : Type} : DataW H → Nat
  | .lit (.string bytes) => bytes.length + 1
  | .lit _ => 1
  | .nil => 1
  | .ptr d => uptoBulk d + 1
  | .slice elems spare => uptoBulkAll elems + uptoBulkAll spare + 1
  | .agg parts => uptoBulkAll parts + 1
  | .iface _ d => uptoBulk d + 1
  | .map entries => uptoBulkEntries entries + 1
  | .held _ => 1
def uptoBulkAll {H : Type} : List (DataW H) → Nat
  | [] => 0
  | d :: r => uptoBulk d + uptoBulkAll r
def uptoBulkEntries {H : Type} : List (Lit × DataW H) → Nat
  | [] => 0
  | x :: r => uptoBulkEntry x + uptoBulkEntries r
def uptoBulkEntry {H : Type} : Lit × DataW H → Nat
  | (.string bytes, d) => bytes.length + uptoBulk d + 1
  | (_, d) => uptoBulk d + 1
 end
def uptoSmall : (H : Type) → List (DataW H) → Bool := fun _ ds => decide (uptoBulkAll ds ≤ 1048576)
def OpenSpec.upto (s : _root_.Go.ChangeSpec) : _root_.Go.OpenSpec := { _root_.Go.OpenSpec.ofChange s with cond := some uptoSmall }

/-- 'turnstilelaw16.SessionQuiet', WHERE WHAT IT READS IS OF BULK AT MOST 1048576: true; the input reads as it did. -/
def sessionQuietUptoRow : OpenClaim := { program := "ytcdikjomiomnpaa", sum := "4ae535949a72578157873839a31c0cc4bdf2bde75670c417ddcd6009c4d99ec2", func := "turnstile/turnstilelaw16.SessionQuiet", spec := "sessionQuiet", unfollowed := true, recurses := true, apart := false, narrowed := true }
def SessionQuietUptoSaid : Prop := sessionQuietUptoRow.holds Try.pinned (OpenSpec.upto sessionQuietSpec)

/-- 'turnstilelaw16.SessionLost', WHERE WHAT IT READS IS OF BULK AT MOST 1048576: true; the input reads as it did. -/
def sessionLostUptoRow : OpenClaim := { program := "ytcdikjomiomnpaa", sum := "4ae535949a72578157873839a31c0cc4bdf2bde75670c417ddcd6009c4d99ec2", func := "turnstile/turnstilelaw16.SessionLost", spec := "sessionLost", unfollowed := true, recurses := true, apart := false, narrowed := true }
def SessionLostUptoSaid : Prop := sessionLostUptoRow.holds Try.pinned (OpenSpec.upto sessionLostSpec)

/-- 'turnstilelaw16.SessionSigns', WHERE WHAT IT READS IS OF BULK AT MOST 1048576: true; the input reads as it did. -/
def sessionSignsUptoRow : OpenClaim := { program := "ytcdikjomiomnpaa", sum := "4ae535949a72578157873839a31c0cc4bdf2bde75670c417ddcd6009c4d99ec2", func := "turnstile/turnstilelaw16.SessionSigns", spec := "sessionSigns", unfollowed := true, recurses := true, apart := false, narrowed := true }
def SessionSignsUptoSaid : Prop := sessionSignsUptoRow.holds Try.pinned (OpenSpec.upto sessionSignsSpec)

/-- 'turnstilelaw16.SessionPlays', WHERE WHAT IT READS IS OF BULK AT MOST 1048576: true; the input reads as it did. -/
def sessionPlaysUptoRow : OpenClaim := { program := "ytcdikjomiomnpaa", sum := "4ae535949a72578157873839a31c0cc4bdf2bde75670c417ddcd6009c4d99ec2", func := "turnstile/turnstilelaw16.SessionPlays", spec := "sessionPlays", unfollowed := true, recurses := true, apart := false, narrowed := true }
def SessionPlaysUptoSaid : Prop := sessionPlaysUptoRow.holds Try.pinned (OpenSpec.upto sessionPlaysSpec)

/-- 'turnstilelaw16.SessionAcquirer', WHERE WHAT IT READS IS OF BULK AT MOST 1048576: true; the input reads as it did. -/
def sessionAcquirerUptoRow : OpenClaim := { program := "ytcdikjomiomnpaa", sum := "4ae535949a72578157873839a31c0cc4bdf2bde75670c417ddcd6009c4d99ec2", func := "turnstile/turnstilelaw16.SessionAcquirer", spec := "sessionAcquirer", unfollowed := true, recurses := true, apart := false, narrowed := true }
def SessionAcquirerUptoSaid : Prop := sessionAcquirerUptoRow.holds Try.pinned (OpenSpec.upto sessionAcquirerSpec)

/-- 'turnstilelaw16.SessionAnew', WHERE WHAT IT READS IS OF BULK AT MOST 1048576: true; the input reads as it did. -/
def sessionAnewUptoRow : OpenClaim := { program := "ytcdikjomiomnpaa", sum := "4ae535949a72578157873839a31c0cc4bdf2bde75670c417ddcd6009c4d99ec2", func := "turnstile/turnstilelaw16.SessionAnew", spec := "sessionAnew", unfollowed := true, recurses := true, apart := false, narrowed := true }
def SessionAnewUptoSaid : Prop := sessionAnewUptoRow.holds Try.pinned (OpenSpec.upto sessionAnewSpec)

end Rows
end Go.Proofs.Ytcdikjomiomnpaa
