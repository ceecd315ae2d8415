/-
  DERIVED. GIVEN WITH THE SEED: THE CARDS: each row of YtaogmbiepbhmoaaDoorRows.lean that lists a variable, with what it lists TIED to the program's text (the seventh form; the later family's looks); each row that meets fmt, with fmt's text TOLD by the authors' own Lean function (tested against real Go, not proved from fmt's source: count such statements apart). THE CARD IS WHAT COUNTS. Prove the row's statement (the work); the ties are given (YtaogmbiepbhmoaaDoorTie.lean); close each card by the builder's one call (the guide's Derived/Test/ToyasCard.lean, 'card_holds'). Laid BY PROGRAM, IN A SANDBOX (cutbox-door.mjs). By AI agents, Wed Nov 11 2026. No macro, syntax, notation, axiom, sorry.
-/
import Derived.Test.YtaogmbiepbhmoaaDoorRows
import GoSem.ClaimSeven
namespace Go.Proofs.YtaogmbiepbhmoaaDoor
namespace Rows

/-- THE TIED CARD OF 'supercargolaw48.MatchTexts'. -/
def matchTextsCard : Claim7 := { stood := { row := matchTextsRow, standIns := [], harness := (true, "e72a38c29c1de58d7d83ad3667569eaf97ddd67aab8a99e65bc29d757eb83e9f"), looks := false }, kinds := [], alts := [], laidByText := true, laidKinds := [.data, .data, .data], laidTests := true, laidLooks := .later }
def MatchTextsCardSaid : Prop := Claim7.holds Tryd.pinned (.plain (OpenSpec.ofChange matchTextsSpec)) matchTextsCard

/-- THE SECOND FORM's CARD OF 'supercargolaw48.MatchTexts'. -/
def matchTextsUptoCard : Claim7 := { stood := { row := matchTextsUptoRow, standIns := [], harness := (true, "e72a38c29c1de58d7d83ad3667569eaf97ddd67aab8a99e65bc29d757eb83e9f"), looks := false }, kinds := [], alts := [], laidByText := true, laidKinds := [.data, .data, .data], laidTests := true, laidLooks := .later }
def MatchTextsUptoCardSaid : Prop := Claim7.holds Tryd.pinned (.plain (OpenSpec.upto matchTextsSpec)) matchTextsUptoCard
end Rows
end Go.Proofs.YtaogmbiepbhmoaaDoor
