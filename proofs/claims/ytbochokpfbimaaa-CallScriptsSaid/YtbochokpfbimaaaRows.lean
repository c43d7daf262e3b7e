/-
  No cell of these rows narrows 'for every input' (looked for: loops, veiled, ifaces, maps, wideKeys, modest, calm, conditions, laid).
  DERIVED. THE GIVEN ROWS OF THIS SEAT. 4 by the template 'for every input the law returns true; each argument reads behind the call as it read before'; 0 by the template 'total and deterministic' (their statements: YtbochokpfbimaaaTotals.lean).
  GIVEN WITH THE SEED: the statements are not yours to turn. If you find one false, say at which input.
  Laid BY PROGRAM, IN A SANDBOX (cutbox-rows.mjs): the forced cells as the released guide's own fill.sh prints them over the translation 3306bfcd9f13730f… (all of the seat's roots in one cut). By AI agents, Wed Nov 11 2026. No macro, syntax, notation, axiom, sorry.
-/
import Derived.Test.YtbochokpfbimaaaChecked
import GoSem.Claim
import GoSem.ClaimJoined
import GoSem.ClaimMapViews
import Derived.JoinedTies
import Derived.KernelRfl
namespace Go.Proofs.Ytbochokpfbimaaa
/- THE CELL 'sum', in the pinned program and in every row, IS THE sha256 OF THE DUMP (.gsa) THAT YtbochokpfbimaaaProg.lean LOADS. Nothing in Lean hashes anything: it is a label: what it is worth is what the hold of that sum in a sandbox is worth. -/
noncomputable def Try.pinned : Pinned := { name := "ytbochokpfbimaaa", sum := "3306bfcd9f13730fcc4eaacebd5d0b6bd43584b498e953c557d3b36469a7dc91", checked := Try.checked }
namespace Rows
def none {H : Type} : Left H := { results := [], args := [] }

/-- 'overfalllaw18.CallSizes': WHATEVER THE INPUT: true; the input reads as it did. -/
def callSizesSpec : ChangeSpec := { name := "callSizes", fn := fun _ => fun
  | [d1, d2] => { results := [.lit (.bool true)], args := [d1, d2] }
  | _ => none }
def callSizesRow : OpenClaim := { program := "ytbochokpfbimaaa", sum := "3306bfcd9f13730fcc4eaacebd5d0b6bd43584b498e953c557d3b36469a7dc91", func := "overfall/overfalllaw18.CallSizes", spec := "callSizes", apart := false }
def CallSizesSaid : Prop := callSizesRow.holds Try.pinned (OpenSpec.ofChange callSizesSpec)

/-- ITS FALSE NEIGHBOUR: 'it returns false'. Refute it at one input. -/
def callSizesWrong : ChangeSpec := { name := "callSizes", fn := fun _ => fun
  | [d1, d2] => { results := [.lit (.bool false)], args := [d1, d2] }
  | _ => none }
def CallSizesWrongFalsely : Prop := callSizesRow.holds Try.pinned (OpenSpec.ofChange callSizesWrong)

/-- 'overfalllaw18.CallNumbers': WHATEVER THE INPUT: true; the input reads as it did. -/
def callNumbersSpec : ChangeSpec := { name := "callNumbers", fn := fun _ => fun
  | [d1, d2] => { results := [.lit (.bool true)], args := [d1, d2] }
  | _ => none }
def callNumbersRow : OpenClaim := { program := "ytbochokpfbimaaa", sum := "3306bfcd9f13730fcc4eaacebd5d0b6bd43584b498e953c557d3b36469a7dc91", func := "overfall/overfalllaw18.CallNumbers", spec := "callNumbers", apart := false }
def CallNumbersSaid : Prop := callNumbersRow.holds Try.pinned (OpenSpec.ofChange callNumbersSpec)

/-- ITS FALSE NEIGHBOUR: 'it returns false'. Refute it at one input. -/
def callNumbersWrong : ChangeSpec := { name := "callNumbers", fn := fun _ => fun
  | [d1, d2] => { results := [.lit (.bool false)], args := [d1, d2] }
  | _ => none }
def CallNumbersWrongFalsely : Prop := callNumbersRow.holds Try.pinned (OpenSpec.ofChange callNumbersWrong)

/-- 'overfalllaw18.CallOps': WHATEVER THE INPUT: true; the input reads as it did. -/
def callOpsSpec : ChangeSpec := { name := "callOps", fn := fun _ => fun
  | [d1, d2, d3] => { results := [.lit (.bool true)], args := [d1, d2, d3] }
  | _ => none }
def callOpsRow : OpenClaim := { program := "ytbochokpfbimaaa", sum := "3306bfcd9f13730fcc4eaacebd5d0b6bd43584b498e953c557d3b36469a7dc91", func := "overfall/overfalllaw18.CallOps", spec := "callOps", apart := false }
def CallOpsSaid : Prop := callOpsRow.holds Try.pinned (OpenSpec.ofChange callOpsSpec)

/-- ITS FALSE NEIGHBOUR: 'it returns false'. Refute it at one input. -/
def callOpsWrong : ChangeSpec := { name := "callOps", fn := fun _ => fun
  | [d1, d2, d3] => { results := [.lit (.bool false)], args := [d1, d2, d3] }
  | _ => none }
def CallOpsWrongFalsely : Prop := callOpsRow.holds Try.pinned (OpenSpec.ofChange callOpsWrong)

/-- 'overfalllaw18.CallScripts': WHATEVER THE INPUT: true; the input reads as it did. -/
def callScriptsSpec : ChangeSpec := { name := "callScripts", fn := fun _ => fun
  | [d1, d2] => { results := [.lit (.bool true)], args := [d1, d2] }
  | _ => none }
def callScriptsRow : OpenClaim := { program := "ytbochokpfbimaaa", sum := "3306bfcd9f13730fcc4eaacebd5d0b6bd43584b498e953c557d3b36469a7dc91", func := "overfall/overfalllaw18.CallScripts", spec := "callScripts", apart := false }
def CallScriptsSaid : Prop := callScriptsRow.holds Try.pinned (OpenSpec.ofChange callScriptsSpec)

/-- ITS FALSE NEIGHBOUR: 'it returns false'. Refute it at one input. -/
def callScriptsWrong : ChangeSpec := { name := "callScripts", fn := fun _ => fun
  | [d1, d2] => { results := [.lit (.bool false)], args := [d1, d2] }
  | _ => none }
def CallScriptsWrongFalsely : Prop := callScriptsRow.holds Try.pinned (OpenSpec.ofChange callScriptsWrong)

/- THE SECOND FORM. 'bulk': how many values and letters a reading holds, each counted each time it is reached (what is shared counts as often as it is met; a slice's spare places count too). A statement '..UptoSaid' is the law's where the arguments, and the package variables that the reading takes, are together of bulk at most 1048576: NARROWER than '..Said'. Prove '..Said' where nothing that the law and all that it calls make is longer than what came in: it says more and counts as full. Else prove '..UptoSaid'. A law counts once. -/
mutual
def uptoBulk {H : Type} : DataW H → Nat
  | .lit (.string bytes) => bytes.length + 1
  | .lit _ => 1
  | .nil => 1
  | .ptr d => uptoBulk d + 1
  | .slice elems spare => uptoBulkAll elems + uptoBulkAll spare + 1
  | .agg parts => uptoBulkAll parts + 1
  | .iface _ d => uptoBulk d + 1
  | .map entries => uptoBulkEntries entries + 1
  | .held _ => 1
def uptoBulkAll {H : Type} : List (DataW H) → Nat
  | [] => 0
  | d :: r => uptoBulk d + uptoBulkAll r
def uptoBulkEntries {H : Type} : List (Lit × DataW H) → Nat
  | [] => 0
  | x :: r => uptoBulkEntry x + uptoBulkEntries r
def uptoBulkEntry {H : Type} : Lit × DataW H → Nat
  | (.string bytes, d) => bytes.length + uptoBulk d + 1
  | (_, d) => uptoBulk d + 1
 end
def uptoSmall : (H : Type) → List (DataW H) → Bool := fun _ ds => decide (uptoBulkAll ds ≤ 1048576)
def OpenSpec.upto (s : _root_.Go.ChangeSpec) : _root_.Go.OpenSpec := { _root_.Go.OpenSpec.ofChange s with cond := some uptoSmall }

/-- 'overfalllaw18.CallSizes', WHERE WHAT IT READS IS OF BULK AT MOST 1048576: true; the input reads as it did. -/
def callSizesUptoRow : OpenClaim := { program := "ytbochokpfbimaaa", sum := "3306bfcd9f13730fcc4eaacebd5d0b6bd43584b498e953c557d3b36469a7dc91", func := "overfall/overfalllaw18.CallSizes", spec := "callSizes", apart := false, narrowed := true }
def CallSizesUptoSaid : Prop := callSizesUptoRow.holds Try.pinned (OpenSpec.upto callSizesSpec)

/-- 'overfalllaw18.CallNumbers', WHERE WHAT IT READS IS OF BULK AT MOST 1048576: true; the input reads as it did. -/
def callNumbersUptoRow : OpenClaim := { program := "ytbochokpfbimaaa", sum := "3306bfcd9f13730fcc4eaacebd5d0b6bd43584b498e953c557d3b36469a7dc91", func := "overfall/overfalllaw18.CallNumbers", spec := "callNumbers", apart := false, narrowed := true }
def CallNumbersUptoSaid : Prop := callNumbersUptoRow.holds Try.pinned (OpenSpec.upto callNumbersSpec)

/-- 'overfalllaw18.CallOps', WHERE WHAT IT READS IS OF BULK AT MOST 1048576: true; the input reads as it did. -/
def callOpsUptoRow : OpenClaim := { program := "ytbochokpfbimaaa", sum := "3306bfcd9f13730fcc4eaacebd5d0b6bd43584b498e953c557d3b36469a7dc91", func := "overfall/overfalllaw18.CallOps", spec := "callOps", apart := false, narrowed := true }
def CallOpsUptoSaid : Prop := callOpsUptoRow.holds Try.pinned (OpenSpec.upto callOpsSpec)

/-- 'overfalllaw18.CallScripts', WHERE WHAT IT READS IS OF BULK AT MOST 1048576: true; the input reads as it did. -/
def callScriptsUptoRow : OpenClaim := { program := "ytbochokpfbimaaa", sum := "3306bfcd9f13730fcc4eaacebd5d0b6bd43584b498e953c557d3b36469a7dc91", func := "overfall/overfalllaw18.CallScripts", spec := "callScripts", apart := false, narrowed := true }
def CallScriptsUptoSaid : Prop := callScriptsUptoRow.holds Try.pinned (OpenSpec.upto callScriptsSpec)

end Rows
end Go.Proofs.Ytbochokpfbimaaa
