/-
  No cell of these rows narrows 'for every input' (looked for: loops, veiled, ifaces, maps, wideKeys, modest, calm, conditions, laid).
  DERIVED. THE GIVEN ROWS OF THIS SEAT. 3 by the template 'for every input the law returns true; each argument reads behind the call as it read before'; 0 by the template 'total and deterministic' (their statements: YtgackgdoikfmdaaTotals.lean).
  GIVEN WITH THE SEED: the statements are not yours to turn. If you find one false, say at which input.
  Laid BY PROGRAM, IN A SANDBOX (cutbox-rows.mjs): the forced cells as the released guide's own fill.sh prints them over the translation ebf388d5e72cce15… (all of the seat's roots in one cut). By AI agents, Wed Nov 11 2026. No macro, syntax, notation, axiom, sorry.
-/
import Derived.Test.YtgackgdoikfmdaaChecked
import GoSem.Claim
import GoSem.ClaimJoined
import GoSem.ClaimMapViews
import Derived.JoinedTies
import Derived.KernelRfl
namespace Go.Proofs.Ytgackgdoikfmdaa
/- THE CELL 'sum', in the pinned program and in every row, IS THE sha256 OF THE DUMP (.gsa) THAT YtgackgdoikfmdaaProg.lean LOADS. Nothing in Lean hashes anything: it is a label: what it is worth is what the hold of that sum in a sandbox is worth. -/
noncomputable def Try.pinned : Pinned := { name := "ytgackgdoikfmdaa", sum := "ebf388d5e72cce152dc0df7cb5af590aecf249422e254f6ae85829862b21c13c", checked := Try.checked }
namespace Rows
def none {H : Type} : Left H := { results := [], args := [] }

/-- 'overfalllaw10.ModeTurns': WHATEVER THE INPUT: true; the input reads as it did. -/
def modeTurnsSpec : ChangeSpec := { name := "modeTurns", fn := fun _ => fun
  | [d1, d2, d3, d4, d5] => { results := [.lit (.bool true)], args := [d1, d2, d3, d4, d5] }
  | _ => none }
def modeTurnsRow : OpenClaim := { program := "ytgackgdoikfmdaa", sum := "ebf388d5e72cce152dc0df7cb5af590aecf249422e254f6ae85829862b21c13c", func := "overfall/overfalllaw10.ModeTurns", spec := "modeTurns", apart := false }
def ModeTurnsSaid : Prop := modeTurnsRow.holds Try.pinned (OpenSpec.ofChange modeTurnsSpec)

/-- ITS FALSE NEIGHBOUR: 'it returns false'. Refute it at one input. -/
def modeTurnsWrong : ChangeSpec := { name := "modeTurns", fn := fun _ => fun
  | [d1, d2, d3, d4, d5] => { results := [.lit (.bool false)], args := [d1, d2, d3, d4, d5] }
  | _ => none }
def ModeTurnsWrongFalsely : Prop := modeTurnsRow.holds Try.pinned (OpenSpec.ofChange modeTurnsWrong)

/-- 'overfalllaw10.ModeDwells': WHATEVER THE INPUT: true; the input reads as it did. -/
def modeDwellsSpec : ChangeSpec := { name := "modeDwells", fn := fun _ => fun
  | [d1, d2, d3] => { results := [.lit (.bool true)], args := [d1, d2, d3] }
  | _ => none }
def modeDwellsRow : OpenClaim := { program := "ytgackgdoikfmdaa", sum := "ebf388d5e72cce152dc0df7cb5af590aecf249422e254f6ae85829862b21c13c", func := "overfall/overfalllaw10.ModeDwells", spec := "modeDwells", apart := false }
def ModeDwellsSaid : Prop := modeDwellsRow.holds Try.pinned (OpenSpec.ofChange modeDwellsSpec)

/-- ITS FALSE NEIGHBOUR: 'it returns false'. Refute it at one input. -/
def modeDwellsWrong : ChangeSpec := { name := "modeDwells", fn := fun _ => fun
  | [d1, d2, d3] => { results := [.lit (.bool false)], args := [d1, d2, d3] }
  | _ => none }
def ModeDwellsWrongFalsely : Prop := modeDwellsRow.holds Try.pinned (OpenSpec.ofChange modeDwellsWrong)

/-- 'overfalllaw10.ModeHolds': WHATEVER THE INPUT: true; the input reads as it did. -/
def modeHoldsSpec : ChangeSpec := { name := "modeHolds", fn := fun _ => fun
  | [d1, d2, d3, d4, d5] => { results := [.lit (.bool true)], args := [d1, d2, d3, d4, d5] }
  | _ => none }
def modeHoldsRow : OpenClaim := { program := "ytgackgdoikfmdaa", sum := "ebf388d5e72cce152dc0df7cb5af590aecf249422e254f6ae85829862b21c13c", func := "overfall/overfalllaw10.ModeHolds", spec := "modeHolds", apart := false }
def ModeHoldsSaid : Prop := modeHoldsRow.holds Try.pinned (OpenSpec.ofChange modeHoldsSpec)

/-- ITS FALSE NEIGHBOUR: 'it returns false'. Refute it at one input. -/
def modeHoldsWrong : ChangeSpec := { name := "modeHolds", fn := fun _ => fun
  | [d1, d2, d3, d4, d5] => { results := [.lit (.bool false)], args := [d1, d2, d3, d4, d5] }
  | _ => none }
def ModeHoldsWrongFalsely : Prop := modeHoldsRow.holds Try.pinned (OpenSpec.ofChange modeHoldsWrong)

/- THE SECOND FORM. 'bulk': how many values and letters a reading holds, each counted each time it is reached (what is shared counts as often as it is met; a slice's spare places count too). A statement '..UptoSaid' is the law's where the arguments, and the package variables that the reading takes, are together of bulk at most 1048576: NARROWER than '..Said'. Prove '..Said' where nothing that the law and all that it calls make is longer than what came in: it says more and counts as full. Else prove '..UptoSaid'. A law counts once. -/
mutual
def uptoBulk {H : Type} : DataW H → Nat
  | .lit (.string bytes) => bytes.length + 1
  | .lit _ => 1
  | .nil => 1
  | .ptr d => uptoBulk d + 1
  | .slice elems spare => uptoBulkAll elems + uptoBulkAll spare + 1
  | .agg parts => uptoBulkAll parts + 1
  | .iface _ d => uptoBulk d + 1
  | .map entries => uptoBulkEntries entries + 1
  | .held _ => 1
def uptoBulkAll {H : Type} : List (DataW H) → Nat
  | [] => 0
  | d :: r => uptoBulk d + uptoBulkAll r
def uptoBulkEntries {H : Type} : List (Lit × DataW H) → Nat
  | [] => 0
  | x :: r => uptoBulkEntry x + uptoBulkEntries r
def uptoBulkEntry {H : Type} : Lit × DataW H → Nat
  | (.string bytes, d) => bytes.length + uptoBulk d + 1
  | (_, d) => uptoBulk d + 1
 end
def uptoSmall : (H : Type) → List (DataW H) → Bool := fun _ ds => decide (uptoBulkAll ds ≤ 1048576)
def OpenSpec.upto (s : _root_.Go.ChangeSpec) : _root_.Go.OpenSpec := { _root_.Go.OpenSpec.ofChange s with cond := some uptoSmall }

/-- 'overfalllaw10.ModeTurns', WHERE WHAT IT READS IS OF BULK AT MOST 1048576: true; the input reads as it did. -/
def modeTurnsUptoRow : OpenClaim := { program := "ytgackgdoikfmdaa", sum := "ebf388d5e72cce152dc0df7cb5af590aecf249422e254f6ae85829862b21c13c", func := "overfall/overfalllaw10.ModeTurns", spec := "modeTurns", apart := false, narrowed := true }
def ModeTurnsUptoSaid : Prop := modeTurnsUptoRow.holds Try.pinned (OpenSpec.upto modeTurnsSpec)

/-- 'overfalllaw10.ModeDwells', WHERE WHAT IT READS IS OF BULK AT MOST 1048576: true; the input reads as it did. -/
def modeDwellsUptoRow : OpenClaim := { program := "ytgackgdoikfmdaa", sum := "ebf388d5e72cce152dc0df7cb5af590aecf249422e254f6ae85829862b21c13c", func := "overfall/overfalllaw10.ModeDwells", spec := "modeDwells", apart := false, narrowed := true }
def ModeDwellsUptoSaid : Prop := modeDwellsUptoRow.holds Try.pinned (OpenSpec.upto modeDwellsSpec)

/-- 'overfalllaw10.ModeHolds', WHERE WHAT IT READS IS OF BULK AT MOST 1048576: true; the input reads as it did. -/
def modeHoldsUptoRow : OpenClaim := { program := "ytgackgdoikfmdaa", sum := "ebf388d5e72cce152dc0df7cb5af590aecf249422e254f6ae85829862b21c13c", func := "overfall/overfalllaw10.ModeHolds", spec := "modeHolds", apart := false, narrowed := true }
def ModeHoldsUptoSaid : Prop := modeHoldsUptoRow.holds Try.pinned (OpenSpec.upto modeHoldsSpec)

end Rows
end Go.Proofs.Ytgackgdoikfmdaa
