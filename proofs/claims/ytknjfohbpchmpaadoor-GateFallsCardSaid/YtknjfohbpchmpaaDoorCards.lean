/-
  DERIVED. GIVEN WITH THE SEED: THE CARDS: each row of YtknjfohbpchmpaaDoorRows.lean that lists a variable, with what it lists TIED to the program's text (the seventh form; the later family's looks); each row that meets fmt, with fmt's text TOLD by the authors' own Lean function (tested against real Go, not proved from fmt's source: count such statements apart). THE CARD IS WHAT COUNTS. Prove the row's statement (the work); the ties are given (YtknjfohbpchmpaaDoorTie.lean); close each card by the builder's one call (the guide's Derived/Test/ToyasCard.lean, 'card_holds'). Laid BY PROGRAM, IN A SANDBOX (cutbox-door.mjs). By AI agents, Wed Nov 11 2026. No macro, syntax, notation, axiom, sorry.
-/
import Derived.Test.YtknjfohbpchmpaaDoorRows
import GoSem.ClaimSeven
namespace Go.Proofs.YtknjfohbpchmpaaDoor
namespace Rows

/-- THE TIED CARD OF 'overfalllaw14.GateFalls'. -/
def gateFallsCard : Claim7 := { stood := { row := gateFallsRow, standIns := [], harness := (true, "ec4cd48a30609a886b742c90dad29e9cb345227553db52ea1627284db0411c40"), looks := false }, kinds := [], alts := [], laidByText := true, laidKinds := [.listed, .data], laidTests := true, laidLooks := .later }
def GateFallsCardSaid : Prop := Claim7.holds Tryd.pinned (.plain (OpenSpec.ofChange gateFallsSpec)) gateFallsCard

/-- THE TIED CARD OF 'overfalllaw14.GateEnds'. -/
def gateEndsCard : Claim7 := { stood := { row := gateEndsRow, standIns := [], harness := (true, "ec4cd48a30609a886b742c90dad29e9cb345227553db52ea1627284db0411c40"), looks := false }, kinds := [], alts := [], laidByText := true, laidKinds := [.listed, .data], laidTests := true, laidLooks := .later }
def GateEndsCardSaid : Prop := Claim7.holds Tryd.pinned (.plain (OpenSpec.ofChange gateEndsSpec)) gateEndsCard

/-- THE TIED CARD OF 'overfalllaw14.GateJudges'. -/
def gateJudgesCard : Claim7 := { stood := { row := gateJudgesRow, standIns := [], harness := (true, "ec4cd48a30609a886b742c90dad29e9cb345227553db52ea1627284db0411c40"), looks := false }, kinds := [], alts := [], laidByText := true, laidKinds := [.listed, .data], laidTests := true, laidLooks := .later }
def GateJudgesCardSaid : Prop := Claim7.holds Tryd.pinned (.plain (OpenSpec.ofChange gateJudgesSpec)) gateJudgesCard

/-- THE TIED CARD OF 'overfalllaw14.GateHorizons'. -/
def gateHorizonsCard : Claim7 := { stood := { row := gateHorizonsRow, standIns := [], harness := (true, "ec4cd48a30609a886b742c90dad29e9cb345227553db52ea1627284db0411c40"), looks := false }, kinds := [], alts := [], laidByText := true, laidKinds := [.listed, .data], laidTests := true, laidLooks := .later }
def GateHorizonsCardSaid : Prop := Claim7.holds Tryd.pinned (.plain (OpenSpec.ofChange gateHorizonsSpec)) gateHorizonsCard

/-- THE TIED CARD OF 'overfalllaw14.GateNames'. -/
def gateNamesCard : Claim7 := { stood := { row := gateNamesRow, standIns := [], harness := (true, "ec4cd48a30609a886b742c90dad29e9cb345227553db52ea1627284db0411c40"), looks := false }, kinds := [], alts := [], laidByText := true, laidKinds := [.listed, .data], laidTests := true, laidLooks := .later }
def GateNamesCardSaid : Prop := Claim7.holds Tryd.pinned (.plain (OpenSpec.ofChange gateNamesSpec)) gateNamesCard

/-- THE SECOND FORM's CARD OF 'overfalllaw14.GateFalls'. -/
def gateFallsUptoCard : Claim7 := { stood := { row := gateFallsUptoRow, standIns := [], harness := (true, "ec4cd48a30609a886b742c90dad29e9cb345227553db52ea1627284db0411c40"), looks := false }, kinds := [], alts := [], laidByText := true, laidKinds := [.listed, .data], laidTests := true, laidLooks := .later }
def GateFallsUptoCardSaid : Prop := Claim7.holds Tryd.pinned (.plain (OpenSpec.upto gateFallsSpec)) gateFallsUptoCard

/-- THE SECOND FORM's CARD OF 'overfalllaw14.GateEnds'. -/
def gateEndsUptoCard : Claim7 := { stood := { row := gateEndsUptoRow, standIns := [], harness := (true, "ec4cd48a30609a886b742c90dad29e9cb345227553db52ea1627284db0411c40"), looks := false }, kinds := [], alts := [], laidByText := true, laidKinds := [.listed, .data], laidTests := true, laidLooks := .later }
def GateEndsUptoCardSaid : Prop := Claim7.holds Tryd.pinned (.plain (OpenSpec.upto gateEndsSpec)) gateEndsUptoCard

/-- THE SECOND FORM's CARD OF 'overfalllaw14.GateJudges'. -/
def gateJudgesUptoCard : Claim7 := { stood := { row := gateJudgesUptoRow, standIns := [], harness := (true, "ec4cd48a30609a886b742c90dad29e9cb345227553db52ea1627284db0411c40"), looks := false }, kinds := [], alts := [], laidByText := true, laidKinds := [.listed, .data], laidTests := true, laidLooks := .later }
def GateJudgesUptoCardSaid : Prop := Claim7.holds Tryd.pinned (.plain (OpenSpec.upto gateJudgesSpec)) gateJudgesUptoCard

/-- THE SECOND FORM's CARD OF 'overfalllaw14.GateHorizons'. -/
def gateHorizonsUptoCard : Claim7 := { stood := { row := gateHorizonsUptoRow, standIns := [], harness := (true, "ec4cd48a30609a886b742c90dad29e9cb345227553db52ea1627284db0411c40"), looks := false }, kinds := [], alts := [], laidByText := true, laidKinds := [.listed, .data], laidTests := true, laidLooks := .later }
def GateHorizonsUptoCardSaid : Prop := Claim7.holds Tryd.pinned (.plain (OpenSpec.upto gateHorizonsSpec)) gateHorizonsUptoCard

/-- THE SECOND FORM's CARD OF 'overfalllaw14.GateNames'. -/
def gateNamesUptoCard : Claim7 := { stood := { row := gateNamesUptoRow, standIns := [], harness := (true, "ec4cd48a30609a886b742c90dad29e9cb345227553db52ea1627284db0411c40"), looks := false }, kinds := [], alts := [], laidByText := true, laidKinds := [.listed, .data], laidTests := true, laidLooks := .later }
def GateNamesUptoCardSaid : Prop := Claim7.holds Tryd.pinned (.plain (OpenSpec.upto gateNamesSpec)) gateNamesUptoCard
end Rows
end Go.Proofs.YtknjfohbpchmpaaDoor
