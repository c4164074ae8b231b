/-
  No cell of these rows narrows 'for every input' (looked for: loops, veiled, ifaces, maps, wideKeys, modest, calm, conditions, laid).
  DERIVED. THE GIVEN ROWS OF THIS SEAT. 4 by the template 'for every input the law returns true; each argument reads behind the call as it read before'; 0 by the template 'total and deterministic' (their statements: YtfgipdfdilafnaaTotals.lean).
  GIVEN WITH THE SEED: the statements are not yours to turn. If you find one false, say at which input.
  Laid BY PROGRAM, IN A SANDBOX (cutbox-rows.mjs): the forced cells as the released guide's own fill.sh prints them over the translation 37b9957e889446a0… (all of the seat's roots in one cut). By AI agents, Wed Nov 11 2026. No macro, syntax, notation, axiom, sorry.
-/
import Derived.Test.YtfgipdfdilafnaaChecked
import GoSem.Claim
import GoSem.ClaimJoined
import GoSem.ClaimMapViews
import Derived.JoinedTies
import Derived.KernelRfl
namespace Go.Proofs.Ytfgipdfdilafnaa
/- THE CELL 'sum', in the pinned program and in every row, IS THE sha256 OF THE DUMP (.gsa) THAT YtfgipdfdilafnaaProg.lean LOADS. Nothing in Lean hashes anything: it is a label: what it is worth is what the hold of that sum in a sandbox is worth. -/
noncomputable def Try.pinned : Pinned := { name := "ytfgipdfdilafnaa", sum := "37b9957e889446a0555176e030d2cb13aec16d32c0908532e73a1c7343a100fe", checked := Try.checked }
namespace Rows
def none {H : Type} : Left H := { results := [], args := [] }

/-- 'minecontrollaw28.SmokeSources': WHATEVER THE INPUT: true; the input reads as it did. -/
def smokeSourcesSpec : ChangeSpec := { name := "smokeSources", fn := fun _ => fun
  | [d] => { results := [.lit (.bool true)], args := [d] }
  | _ => none }
def smokeSourcesRow : OpenClaim := { program := "ytfgipdfdilafnaa", sum := "37b9957e889446a0555176e030d2cb13aec16d32c0908532e73a1c7343a100fe", func := "minecontrol/minecontrollaw28.SmokeSources", spec := "smokeSources", unfollowed := true, recurses := true, apart := false }
def SmokeSourcesSaid : Prop := smokeSourcesRow.holds Try.pinned (OpenSpec.ofChange smokeSourcesSpec)

/-- ITS FALSE NEIGHBOUR: 'it returns false'. Refute it at one input. -/
def smokeSourcesWrong : ChangeSpec := { name := "smokeSources", fn := fun _ => fun
  | [d] => { results := [.lit (.bool false)], args := [d] }
  | _ => none }
def SmokeSourcesWrongFalsely : Prop := smokeSourcesRow.holds Try.pinned (OpenSpec.ofChange smokeSourcesWrong)

/-- 'minecontrollaw28.SmokeRuns': WHATEVER THE INPUT: true; the input reads as it did. -/
def smokeRunsSpec : ChangeSpec := { name := "smokeRuns", fn := fun _ => fun
  | [d] => { results := [.lit (.bool true)], args := [d] }
  | _ => none }
def smokeRunsRow : OpenClaim := { program := "ytfgipdfdilafnaa", sum := "37b9957e889446a0555176e030d2cb13aec16d32c0908532e73a1c7343a100fe", func := "minecontrol/minecontrollaw28.SmokeRuns", spec := "smokeRuns", unfollowed := true, recurses := true, apart := false }
def SmokeRunsSaid : Prop := smokeRunsRow.holds Try.pinned (OpenSpec.ofChange smokeRunsSpec)

/-- ITS FALSE NEIGHBOUR: 'it returns false'. Refute it at one input. -/
def smokeRunsWrong : ChangeSpec := { name := "smokeRuns", fn := fun _ => fun
  | [d] => { results := [.lit (.bool false)], args := [d] }
  | _ => none }
def SmokeRunsWrongFalsely : Prop := smokeRunsRow.holds Try.pinned (OpenSpec.ofChange smokeRunsWrong)

/-- 'minecontrollaw28.SmokeMade': WHATEVER THE INPUT: true; the input reads as it did. -/
def smokeMadeSpec : ChangeSpec := { name := "smokeMade", fn := fun _ => fun
  | [d1, d2, d3] => { results := [.lit (.bool true)], args := [d1, d2, d3] }
  | _ => none }
def smokeMadeRow : OpenClaim := { program := "ytfgipdfdilafnaa", sum := "37b9957e889446a0555176e030d2cb13aec16d32c0908532e73a1c7343a100fe", func := "minecontrol/minecontrollaw28.SmokeMade", spec := "smokeMade", unfollowed := true, recurses := true, apart := false }
def SmokeMadeSaid : Prop := smokeMadeRow.holds Try.pinned (OpenSpec.ofChange smokeMadeSpec)

/-- ITS FALSE NEIGHBOUR: 'it returns false'. Refute it at one input. -/
def smokeMadeWrong : ChangeSpec := { name := "smokeMade", fn := fun _ => fun
  | [d1, d2, d3] => { results := [.lit (.bool false)], args := [d1, d2, d3] }
  | _ => none }
def SmokeMadeWrongFalsely : Prop := smokeMadeRow.holds Try.pinned (OpenSpec.ofChange smokeMadeWrong)

/-- 'minecontrollaw28.SmokeGrows': WHATEVER THE INPUT: true; the input reads as it did. -/
def smokeGrowsSpec : ChangeSpec := { name := "smokeGrows", fn := fun _ => fun
  | [d] => { results := [.lit (.bool true)], args := [d] }
  | _ => none }
def smokeGrowsRow : OpenClaim := { program := "ytfgipdfdilafnaa", sum := "37b9957e889446a0555176e030d2cb13aec16d32c0908532e73a1c7343a100fe", func := "minecontrol/minecontrollaw28.SmokeGrows", spec := "smokeGrows", unfollowed := true, recurses := true, apart := false }
def SmokeGrowsSaid : Prop := smokeGrowsRow.holds Try.pinned (OpenSpec.ofChange smokeGrowsSpec)

/-- ITS FALSE NEIGHBOUR: 'it returns false'. Refute it at one input. -/
def smokeGrowsWrong : ChangeSpec := { name := "smokeGrows", fn := fun _ => fun
  | [d] => { results := [.lit (.bool false)], args := [d] }
  | _ => none }
def SmokeGrowsWrongFalsely : Prop := smokeGrowsRow.holds Try.pinned (OpenSpec.ofChange smokeGrowsWrong)

/- THE SECOND FORM. 'bulk': how many values and letters a reading holds, each counted each time it is reached (what is shared counts as often as it is met; a slice's spare places count too). A statement '..UptoSaid' is the law's where the arguments, and the package variables that the reading takes, are together of bulk at most 1048576: NARROWER than '..Said'. Prove '..Said' where nothing that the law and all that it calls make is longer than what came in: it says more and counts as full. Else prove '..UptoSaid'. A law counts once. -/
mutual
def uptoBulk {H : Type} : DataW H → Nat
  | .lit (.string bytes) => bytes.length + 1
  | .lit _ => 1
  | .nil => 1
  | .ptr d => uptoBulk d + 1
  | .slice elems spare => uptoBulkAll elems + uptoBulkAll spare + 1
  | .agg parts => uptoBulkAll parts + 1
  | .iface _ d => uptoBulk d + 1
  | .map entries => uptoBulkEntries entries + 1
  | .held _ => 1
def uptoBulkAll {H : Type} : List (DataW H) → Nat
  | [] => 0
  | d :: r => uptoBulk d + uptoBulkAll r
def uptoBulkEntries {H : Type} : List (Lit × DataW H) → Nat
  | [] => 0
  | x :: r => uptoBulkEntry x + uptoBulkEntries r
def uptoBulkEntry {H : Type} : Lit × DataW H → Nat
  | (.string bytes, d) => bytes.length + uptoBulk d + 1
  | (_, d) => uptoBulk d + 1
 end
def uptoSmall : (H : Type) → List (DataW H) → Bool := fun _ ds => decide (uptoBulkAll ds ≤ 1048576)
def OpenSpec.upto (s : _root_.Go.ChangeSpec) : _root_.Go.OpenSpec := { _root_.Go.OpenSpec.ofChange s with cond := some uptoSmall }

/-- 'minecontrollaw28.SmokeSources', WHERE WHAT IT READS IS OF BULK AT MOST 1048576: true; the input reads as it did. -/
def smokeSourcesUptoRow : OpenClaim := { program := "ytfgipdfdilafnaa", sum := "37b9957e889446a0555176e030d2cb13aec16d32c0908532e73a1c7343a100fe", func := "minecontrol/minecontrollaw28.SmokeSources", spec := "smokeSources", unfollowed := true, recurses := true, apart := false, narrowed := true }
def SmokeSourcesUptoSaid : Prop := smokeSourcesUptoRow.holds Try.pinned (OpenSpec.upto smokeSourcesSpec)

/-- 'minecontrollaw28.SmokeRuns', WHERE WHAT IT READS IS OF BULK AT MOST 1048576: true; the input reads as it did. -/
def smokeRunsUptoRow : OpenClaim := { program := "ytfgipdfdilafnaa", sum := "37b9957e889446a0555176e030d2cb13aec16d32c0908532e73a1c7343a100fe", func := "minecontrol/minecontrollaw28.SmokeRuns", spec := "smokeRuns", unfollowed := true, recurses := true, apart := false, narrowed := true }
def SmokeRunsUptoSaid : Prop := smokeRunsUptoRow.holds Try.pinned (OpenSpec.upto smokeRunsSpec)

/-- 'minecontrollaw28.SmokeMade', WHERE WHAT IT READS IS OF BULK AT MOST 1048576: true; the input reads as it did. -/
def smokeMadeUptoRow : OpenClaim := { program := "ytfgipdfdilafnaa", sum := "37b9957e889446a0555176e030d2cb13aec16d32c0908532e73a1c7343a100fe", func := "minecontrol/minecontrollaw28.SmokeMade", spec := "smokeMade", unfollowed := true, recurses := true, apart := false, narrowed := true }
def SmokeMadeUptoSaid : Prop := smokeMadeUptoRow.holds Try.pinned (OpenSpec.upto smokeMadeSpec)

/-- 'minecontrollaw28.SmokeGrows', WHERE WHAT IT READS IS OF BULK AT MOST 1048576: true; the input reads as it did. -/
def smokeGrowsUptoRow : OpenClaim := { program := "ytfgipdfdilafnaa", sum := "37b9957e889446a0555176e030d2cb13aec16d32c0908532e73a1c7343a100fe", func := "minecontrol/minecontrollaw28.SmokeGrows", spec := "smokeGrows", unfollowed := true, recurses := true, apart := false, narrowed := true }
def SmokeGrowsUptoSaid : Prop := smokeGrowsUptoRow.holds Try.pinned (OpenSpec.upto smokeGrowsSpec)

end Rows
end Go.Proofs.Ytfgipdfdilafnaa
