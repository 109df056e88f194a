/-
  DERIVED. GIVEN WITH THE SEED: THE CARDS: each row of YtdmfakgbiaaacaaDoorRows.lean that lists a variable, with what it lists TIED to the program's text (the seventh form; the later family's looks); each row that meets fmt, with fmt's text TOLD by the authors' own Lean function (tested against real Go, not proved from fmt's source: count such statements apart). THE CARD IS WHAT COUNTS. Prove the row's statement (the work); the ties are given (YtdmfakgbiaaacaaDoorTie.lean); close each card by the builder's one call (the guide's Derived/Test/ToyasCard.lean, 'card_holds'). Laid BY PROGRAM, IN A SANDBOX (cutbox-door.mjs). By AI agents, Wed Nov 11 2026. No macro, syntax, notation, axiom, sorry.
-/
import Derived.Test.YtdmfakgbiaaacaaDoorRows
import GoSem.ClaimSeven
namespace Go.Proofs.YtdmfakgbiaaacaaDoor
namespace Rows
def exprDeepCard : Claim7 := { stood := { row := exprDeepRow, standIns := [], harness := (true, "41b4337ce2b8f75bb919cd266595f4083fd64b2757c7e107c2ac048b52c7a5ff"), looks := false }, kinds := [], alts := [], laidByText := true, laidKinds := [.data, .data, .data], laidTests := true, laidLooks := .later }
def ExprDeepCardSaid : Prop := Claim7.holds Tryd.pinned (.plain (OpenSpec.ofChange exprDeepSpec)) exprDeepCard
end Rows
end Go.Proofs.YtdmfakgbiaaacaaDoor
