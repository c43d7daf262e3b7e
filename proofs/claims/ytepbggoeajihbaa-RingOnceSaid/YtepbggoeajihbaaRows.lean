/-
  No cell of these rows narrows 'for every input' (looked for: loops, veiled, ifaces, maps, wideKeys, modest, calm, conditions, laid).
  DERIVED. THE GIVEN ROWS OF THIS SEAT. 6 by the template 'for every input the law returns true; each argument reads behind the call as it read before'; 0 by the template 'total and deterministic' (their statements: YtepbggoeajihbaaTotals.lean).
  GIVEN WITH THE SEED: the statements are not yours to turn. If you find one false, say at which input.
  Laid BY PROGRAM, IN A SANDBOX (cutbox-rows.mjs): the forced cells as the released guide's own fill.sh prints them over the translation 3dd05b52a6853542… (all of the seat's roots in one cut). By AI agents, Wed Nov 11 2026. No macro, syntax, notation, axiom, sorry.
-/
import Derived.Test.YtepbggoeajihbaaChecked
import GoSem.Claim
import GoSem.ClaimJoined
import GoSem.ClaimMapViews
import Derived.JoinedTies
import Derived.KernelRfl
namespace Go.Proofs.Ytepbggoeajihbaa
/- THE CELL 'sum', in the pinned program and in every row, IS THE sha256 OF THE DUMP (.gsa) THAT YtepbggoeajihbaaProg.lean LOADS. Nothing in Lean hashes anything: it is a label: what it is worth is what the hold of that sum in a sandbox is worth. -/
noncomputable def Try.pinned : Pinned := { name := "ytepbggoeajihbaa", sum := "3dd05b52a6853542234a6affa73d63e10ca6f98f3e25badd192e100c2e76fc30", checked := Try.checked }
namespace Rows
def none {H : Type} : Left H := { results := [], args := [] }

/-- 'overfalllaw04.RingJoins': WHATEVER THE INPUT: true; the input reads as it did. -/
def ringJoinsSpec : ChangeSpec := { name := "ringJoins", fn := fun _ => fun
  | [d1, d2, d3] => { results := [.lit (.bool true)], args := [d1, d2, d3] }
  | _ => none }
def ringJoinsRow : OpenClaim := { program := "ytepbggoeajihbaa", sum := "3dd05b52a6853542234a6affa73d63e10ca6f98f3e25badd192e100c2e76fc30", func := "overfall/overfalllaw04.RingJoins", spec := "ringJoins", inPlace := ["sync/atomic.StoreUint64", "sync/atomic.LoadUint64", "sync/atomic.CompareAndSwapUint64", "sync/atomic.AddUint64"], apart := false }
def RingJoinsSaid : Prop := ringJoinsRow.holds Try.pinned (OpenSpec.ofChange ringJoinsSpec)

/-- ITS FALSE NEIGHBOUR: 'it returns false'. Refute it at one input. -/
def ringJoinsWrong : ChangeSpec := { name := "ringJoins", fn := fun _ => fun
  | [d1, d2, d3] => { results := [.lit (.bool false)], args := [d1, d2, d3] }
  | _ => none }
def RingJoinsWrongFalsely : Prop := ringJoinsRow.holds Try.pinned (OpenSpec.ofChange ringJoinsWrong)

/-- 'overfalllaw04.RingPlays': WHATEVER THE INPUT: true; the input reads as it did. -/
def ringPlaysSpec : ChangeSpec := { name := "ringPlays", fn := fun _ => fun
  | [d1, d2] => { results := [.lit (.bool true)], args := [d1, d2] }
  | _ => none }
def ringPlaysRow : OpenClaim := { program := "ytepbggoeajihbaa", sum := "3dd05b52a6853542234a6affa73d63e10ca6f98f3e25badd192e100c2e76fc30", func := "overfall/overfalllaw04.RingPlays", spec := "ringPlays", inPlace := ["sync/atomic.StoreUint64", "sync/atomic.LoadUint64", "sync/atomic.CompareAndSwapUint64", "sync/atomic.AddUint64"], apart := false }
def RingPlaysSaid : Prop := ringPlaysRow.holds Try.pinned (OpenSpec.ofChange ringPlaysSpec)

/-- ITS FALSE NEIGHBOUR: 'it returns false'. Refute it at one input. -/
def ringPlaysWrong : ChangeSpec := { name := "ringPlays", fn := fun _ => fun
  | [d1, d2] => { results := [.lit (.bool false)], args := [d1, d2] }
  | _ => none }
def RingPlaysWrongFalsely : Prop := ringPlaysRow.holds Try.pinned (OpenSpec.ofChange ringPlaysWrong)

/-- 'overfalllaw04.RingOnce': WHATEVER THE INPUT: true; the input reads as it did. -/
def ringOnceSpec : ChangeSpec := { name := "ringOnce", fn := fun _ => fun
  | [d1, d2] => { results := [.lit (.bool true)], args := [d1, d2] }
  | _ => none }
def ringOnceRow : OpenClaim := { program := "ytepbggoeajihbaa", sum := "3dd05b52a6853542234a6affa73d63e10ca6f98f3e25badd192e100c2e76fc30", func := "overfall/overfalllaw04.RingOnce", spec := "ringOnce", inPlace := ["sync/atomic.StoreUint64", "sync/atomic.LoadUint64", "sync/atomic.CompareAndSwapUint64", "sync/atomic.AddUint64"], apart := false }
def RingOnceSaid : Prop := ringOnceRow.holds Try.pinned (OpenSpec.ofChange ringOnceSpec)

/-- ITS FALSE NEIGHBOUR: 'it returns false'. Refute it at one input. -/
def ringOnceWrong : ChangeSpec := { name := "ringOnce", fn := fun _ => fun
  | [d1, d2] => { results := [.lit (.bool false)], args := [d1, d2] }
  | _ => none }
def RingOnceWrongFalsely : Prop := ringOnceRow.holds Try.pinned (OpenSpec.ofChange ringOnceWrong)

/-- 'overfalllaw04.RingOrders': WHATEVER THE INPUT: true; the input reads as it did. -/
def ringOrdersSpec : ChangeSpec := { name := "ringOrders", fn := fun _ => fun
  | [d1, d2] => { results := [.lit (.bool true)], args := [d1, d2] }
  | _ => none }
def ringOrdersRow : OpenClaim := { program := "ytepbggoeajihbaa", sum := "3dd05b52a6853542234a6affa73d63e10ca6f98f3e25badd192e100c2e76fc30", func := "overfall/overfalllaw04.RingOrders", spec := "ringOrders", inPlace := ["sync/atomic.StoreUint64", "sync/atomic.LoadUint64", "sync/atomic.CompareAndSwapUint64", "sync/atomic.AddUint64"], apart := false }
def RingOrdersSaid : Prop := ringOrdersRow.holds Try.pinned (OpenSpec.ofChange ringOrdersSpec)

/-- ITS FALSE NEIGHBOUR: 'it returns false'. Refute it at one input. -/
def ringOrdersWrong : ChangeSpec := { name := "ringOrders", fn := fun _ => fun
  | [d1, d2] => { results := [.lit (.bool false)], args := [d1, d2] }
  | _ => none }
def RingOrdersWrongFalsely : Prop := ringOrdersRow.holds Try.pinned (OpenSpec.ofChange ringOrdersWrong)

/-- 'overfalllaw04.RingAlone': WHATEVER THE INPUT: true; the input reads as it did. -/
def ringAloneSpec : ChangeSpec := { name := "ringAlone", fn := fun _ => fun
  | [d1, d2] => { results := [.lit (.bool true)], args := [d1, d2] }
  | _ => none }
def ringAloneRow : OpenClaim := { program := "ytepbggoeajihbaa", sum := "3dd05b52a6853542234a6affa73d63e10ca6f98f3e25badd192e100c2e76fc30", func := "overfall/overfalllaw04.RingAlone", spec := "ringAlone", inPlace := ["sync/atomic.StoreUint64", "sync/atomic.LoadUint64", "sync/atomic.CompareAndSwapUint64", "sync/atomic.AddUint64"], apart := false }
def RingAloneSaid : Prop := ringAloneRow.holds Try.pinned (OpenSpec.ofChange ringAloneSpec)

/-- ITS FALSE NEIGHBOUR: 'it returns false'. Refute it at one input. -/
def ringAloneWrong : ChangeSpec := { name := "ringAlone", fn := fun _ => fun
  | [d1, d2] => { results := [.lit (.bool false)], args := [d1, d2] }
  | _ => none }
def RingAloneWrongFalsely : Prop := ringAloneRow.holds Try.pinned (OpenSpec.ofChange ringAloneWrong)

/-- 'overfalllaw04.RingProgress': WHATEVER THE INPUT: true; the input reads as it did. -/
def ringProgressSpec : ChangeSpec := { name := "ringProgress", fn := fun _ => fun
  | [d1, d2] => { results := [.lit (.bool true)], args := [d1, d2] }
  | _ => none }
def ringProgressRow : OpenClaim := { program := "ytepbggoeajihbaa", sum := "3dd05b52a6853542234a6affa73d63e10ca6f98f3e25badd192e100c2e76fc30", func := "overfall/overfalllaw04.RingProgress", spec := "ringProgress", inPlace := ["sync/atomic.StoreUint64", "sync/atomic.LoadUint64", "sync/atomic.CompareAndSwapUint64", "sync/atomic.AddUint64"], apart := false }
def RingProgressSaid : Prop := ringProgressRow.holds Try.pinned (OpenSpec.ofChange ringProgressSpec)

/-- ITS FALSE NEIGHBOUR: 'it returns false'. Refute it at one input. -/
def ringProgressWrong : ChangeSpec := { name := "ringProgress", fn := fun _ => fun
  | [d1, d2] => { results := [.lit (.bool false)], args := [d1, d2] }
  | _ => none }
def RingProgressWrongFalsely : Prop := ringProgressRow.holds Try.pinned (OpenSpec.ofChange ringProgressWrong)

/- THE SECOND FORM. 'bulk': how many values and letters a reading holds, each counted each time it is reached (what is shared counts as often as it is met; a slice's spare places count too). A statement '..UptoSaid' is the law's where the arguments, and the package variables that the reading takes, are together of bulk at most 1048576: NARROWER than '..Said'. Prove '..Said' where nothing that the law and all that it calls make is longer than what came in: it says more and counts as full. Else prove '..UptoSaid'. A law counts once. -/
mutual
def uptoBulk {H : Type} : DataW H → Nat
  | .lit (.string bytes) => bytes.length + 1
  | .lit _ => 1
  | .nil => 1
  | .ptr d => uptoBulk d + 1
  | .slice elems spare => uptoBulkAll elems + uptoBulkAll spare + 1
  | .agg parts => uptoBulkAll parts + 1
  | .iface _ d => uptoBulk d + 1
  | .map entries => uptoBulkEntries entries + 1
  | .held _ => 1
def uptoBulkAll {H : Type} : List (DataW H) → Nat
  | [] => 0
  | d :: r => uptoBulk d + uptoBulkAll r
def uptoBulkEntries {H : Type} : List (Lit × DataW H) → Nat
  | [] => 0
  | x :: r => uptoBulkEntry x + uptoBulkEntries r
def uptoBulkEntry {H : Type} : Lit × DataW H → Nat
  | (.string bytes, d) => bytes.length + uptoBulk d + 1
  | (_, d) => uptoBulk d + 1
 end
def uptoSmall : (H : Type) → List (DataW H) → Bool := fun _ ds => decide (uptoBulkAll ds ≤ 1048576)
def OpenSpec.upto (s : _root_.Go.ChangeSpec) : _root_.Go.OpenSpec := { _root_.Go.OpenSpec.ofChange s with cond := some uptoSmall }

/-- 'overfalllaw04.RingJoins', WHERE WHAT IT READS IS OF BULK AT MOST 1048576: true; the input reads as it did. -/
def ringJoinsUptoRow : OpenClaim := { program := "ytepbggoeajihbaa", sum := "3dd05b52a6853542234a6affa73d63e10ca6f98f3e25badd192e100c2e76fc30", func := "overfall/overfalllaw04.RingJoins", spec := "ringJoins", inPlace := ["sync/atomic.StoreUint64", "sync/atomic.LoadUint64", "sync/atomic.CompareAndSwapUint64", "sync/atomic.AddUint64"], apart := false, narrowed := true }
def RingJoinsUptoSaid : Prop := ringJoinsUptoRow.holds Try.pinned (OpenSpec.upto ringJoinsSpec)

/-- 'overfalllaw04.RingPlays', WHERE WHAT IT READS IS OF BULK AT MOST 1048576: true; the input reads as it did. -/
def ringPlaysUptoRow : OpenClaim := { program := "ytepbggoeajihbaa", sum := "3dd05b52a6853542234a6affa73d63e10ca6f98f3e25badd192e100c2e76fc30", func := "overfall/overfalllaw04.RingPlays", spec := "ringPlays", inPlace := ["sync/atomic.StoreUint64", "sync/atomic.LoadUint64", "sync/atomic.CompareAndSwapUint64", "sync/atomic.AddUint64"], apart := false, narrowed := true }
def RingPlaysUptoSaid : Prop := ringPlaysUptoRow.holds Try.pinned (OpenSpec.upto ringPlaysSpec)

/-- 'overfalllaw04.RingOnce', WHERE WHAT IT READS IS OF BULK AT MOST 1048576: true; the input reads as it did. -/
def ringOnceUptoRow : OpenClaim := { program := "ytepbggoeajihbaa", sum := "3dd05b52a6853542234a6affa73d63e10ca6f98f3e25badd192e100c2e76fc30", func := "overfall/overfalllaw04.RingOnce", spec := "ringOnce", inPlace := ["sync/atomic.StoreUint64", "sync/atomic.LoadUint64", "sync/atomic.CompareAndSwapUint64", "sync/atomic.AddUint64"], apart := false, narrowed := true }
def RingOnceUptoSaid : Prop := ringOnceUptoRow.holds Try.pinned (OpenSpec.upto ringOnceSpec)

/-- 'overfalllaw04.RingOrders', WHERE WHAT IT READS IS OF BULK AT MOST 1048576: true; the input reads as it did. -/
def ringOrdersUptoRow : OpenClaim := { program := "ytepbggoeajihbaa", sum := "3dd05b52a6853542234a6affa73d63e10ca6f98f3e25badd192e100c2e76fc30", func := "overfall/overfalllaw04.RingOrders", spec := "ringOrders", inPlace := ["sync/atomic.StoreUint64", "sync/atomic.LoadUint64", "sync/atomic.CompareAndSwapUint64", "sync/atomic.AddUint64"], apart := false, narrowed := true }
def RingOrdersUptoSaid : Prop := ringOrdersUptoRow.holds Try.pinned (OpenSpec.upto ringOrdersSpec)

/-- 'overfalllaw04.RingAlone', WHERE WHAT IT READS IS OF BULK AT MOST 1048576: true; the input reads as it did. -/
def ringAloneUptoRow : OpenClaim := { program := "ytepbggoeajihbaa", sum := "3dd05b52a6853542234a6affa73d63e10ca6f98f3e25badd192e100c2e76fc30", func := "overfall/overfalllaw04.RingAlone", spec := "ringAlone", inPlace := ["sync/atomic.StoreUint64", "sync/atomic.LoadUint64", "sync/atomic.CompareAndSwapUint64", "sync/atomic.AddUint64"], apart := false, narrowed := true }
def RingAloneUptoSaid : Prop := ringAloneUptoRow.holds Try.pinned (OpenSpec.upto ringAloneSpec)

/-- 'overfalllaw04.RingProgress', WHERE WHAT IT READS IS OF BULK AT MOST 1048576: true; the input reads as it did. -/
def ringProgressUptoRow : OpenClaim := { program := "ytepbggoeajihbaa", sum := "3dd05b52a6853542234a6affa73d63e10ca6f98f3e25badd192e100c2e76fc30", func := "overfall/overfalllaw04.RingProgress", spec := "ringProgress", inPlace := ["sync/atomic.StoreUint64", "sync/atomic.LoadUint64", "sync/atomic.CompareAndSwapUint64", "sync/atomic.AddUint64"], apart := false, narrowed := true }
def RingProgressUptoSaid : Prop := ringProgressUptoRow.holds Try.pinned (OpenSpec.upto ringProgressSpec)

end Rows
end Go.Proofs.Ytepbggoeajihbaa
