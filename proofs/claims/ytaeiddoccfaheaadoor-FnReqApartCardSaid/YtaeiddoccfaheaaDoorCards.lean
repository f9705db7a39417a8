/-
  DERIVED. GIVEN WITH THE SEED: THE CARDS: each row of YtaeiddoccfaheaaDoorRows.lean that lists a variable, with what it lists TIED to the program's text (the seventh form; the later family's looks); each row that meets fmt, with fmt's text TOLD by the authors' own Lean function (tested against real Go, not proved from fmt's source: count such statements apart). THE CARD IS WHAT COUNTS. Prove the row's statement (the work); the ties are given (YtaeiddoccfaheaaDoorTie.lean); close each card by the builder's one call (the guide's Derived/Test/ToyasCard.lean, 'card_holds'). Laid BY PROGRAM, IN A SANDBOX (cutbox-door.mjs). By AI agents, Wed Nov 11 2026. No macro, syntax, notation, axiom, sorry.
-/
import Derived.Test.YtaeiddoccfaheaaDoorRows
import GoSem.ClaimSeven
namespace Go.Proofs.YtaeiddoccfaheaaDoor
namespace Rows

/-- THE TIED CARD OF 'laws.FnExactRspText'. -/
def fnExactRspTextCard : Claim7 := { stood := { row := fnExactRspTextRow, standIns := [], harness := (true, "e417f15a72d73d6417c807500a0c54e876089ad537866bc54c52dba4e83b9c50"), looks := false }, kinds := [], alts := [], laidByText := true, laidKinds := [.data, .data, .data, .data], laidTests := true, laidLooks := .later }
def FnExactRspTextCardSaid : Prop := Claim7.holds Tryd.pinned (.plain (OpenSpec.ofChange fnExactRspTextSpec)) fnExactRspTextCard

/-- THE TIED CARD OF 'laws.FnExactReqText'. -/
def fnExactReqTextCard : Claim7 := { stood := { row := fnExactReqTextRow, standIns := [], harness := (true, "e417f15a72d73d6417c807500a0c54e876089ad537866bc54c52dba4e83b9c50"), looks := false }, kinds := [], alts := [], laidByText := true, laidKinds := [.data, .data, .data, .widerDeep], laidTests := true, laidLooks := .later }
def FnExactReqTextCardSaid : Prop := Claim7.holds Tryd.pinned (.plain (OpenSpec.ofChange fnExactReqTextSpec)) fnExactReqTextCard

/-- THE TIED CARD OF 'laws.FnRspText'. -/
def fnRspTextCard : Claim7 := { stood := { row := fnRspTextRow, standIns := [], harness := (true, "e417f15a72d73d6417c807500a0c54e876089ad537866bc54c52dba4e83b9c50"), looks := false }, kinds := [], alts := [], laidByText := true, laidKinds := [.data, .data, .data, .data], laidTests := true, laidLooks := .later }
def FnRspTextCardSaid : Prop := Claim7.holds Tryd.pinned (.plain (OpenSpec.ofChange fnRspTextSpec)) fnRspTextCard

/-- THE TIED CARD OF 'laws.FnReqApart'. -/
def fnReqApartCard : Claim7 := { stood := { row := fnReqApartRow, standIns := [], harness := (true, "e417f15a72d73d6417c807500a0c54e876089ad537866bc54c52dba4e83b9c50"), looks := false }, kinds := [], alts := [], laidByText := true, laidKinds := [.data, .data, .data, .widerDeep], laidTests := true, laidLooks := .later }
def FnReqApartCardSaid : Prop := Claim7.holds Tryd.pinned (.plain (OpenSpec.ofChange fnReqApartSpec)) fnReqApartCard

/-- THE SECOND FORM's CARD OF 'laws.FnExactRspText'. -/
def fnExactRspTextUptoCard : Claim7 := { stood := { row := fnExactRspTextUptoRow, standIns := [], harness := (true, "e417f15a72d73d6417c807500a0c54e876089ad537866bc54c52dba4e83b9c50"), looks := false }, kinds := [], alts := [], laidByText := true, laidKinds := [.data, .data, .data, .data], laidTests := true, laidLooks := .later }
def FnExactRspTextUptoCardSaid : Prop := Claim7.holds Tryd.pinned (.plain (OpenSpec.upto fnExactRspTextSpec)) fnExactRspTextUptoCard

/-- THE SECOND FORM's CARD OF 'laws.FnExactReqText'. -/
def fnExactReqTextUptoCard : Claim7 := { stood := { row := fnExactReqTextUptoRow, standIns := [], harness := (true, "e417f15a72d73d6417c807500a0c54e876089ad537866bc54c52dba4e83b9c50"), looks := false }, kinds := [], alts := [], laidByText := true, laidKinds := [.data, .data, .data, .widerDeep], laidTests := true, laidLooks := .later }
def FnExactReqTextUptoCardSaid : Prop := Claim7.holds Tryd.pinned (.plain (OpenSpec.upto fnExactReqTextSpec)) fnExactReqTextUptoCard

/-- THE SECOND FORM's CARD OF 'laws.FnRspText'. -/
def fnRspTextUptoCard : Claim7 := { stood := { row := fnRspTextUptoRow, standIns := [], harness := (true, "e417f15a72d73d6417c807500a0c54e876089ad537866bc54c52dba4e83b9c50"), looks := false }, kinds := [], alts := [], laidByText := true, laidKinds := [.data, .data, .data, .data], laidTests := true, laidLooks := .later }
def FnRspTextUptoCardSaid : Prop := Claim7.holds Tryd.pinned (.plain (OpenSpec.upto fnRspTextSpec)) fnRspTextUptoCard

/-- THE SECOND FORM's CARD OF 'laws.FnReqApart'. -/
def fnReqApartUptoCard : Claim7 := { stood := { row := fnReqApartUptoRow, standIns := [], harness := (true, "e417f15a72d73d6417c807500a0c54e876089ad537866bc54c52dba4e83b9c50"), looks := false }, kinds := [], alts := [], laidByText := true, laidKinds := [.data, .data, .data, .widerDeep], laidTests := true, laidLooks := .later }
def FnReqApartUptoCardSaid : Prop := Claim7.holds Tryd.pinned (.plain (OpenSpec.upto fnReqApartSpec)) fnReqApartUptoCard
end Rows
end Go.Proofs.YtaeiddoccfaheaaDoor
