/-
  DERIVED. GIVEN WITH THE SEED: THE CARDS: each row of YtmbjlondehcheaaGreatDoorRows.lean that lists a variable, with what it lists TIED to the program's text (the seventh form; the later family's looks); each row that meets fmt, with fmt's text TOLD by the authors' own Lean function (tested against real Go, not proved from fmt's source: count such statements apart). THE CARD IS WHAT COUNTS. Prove the row's statement (the work); the ties are given (YtmbjlondehcheaaGreatDoorTie.lean); close each card by the builder's one call (the guide's Derived/Test/ToyasCard.lean, 'card_holds'). Laid BY PROGRAM, IN A SANDBOX (cutbox-door.mjs). By AI agents, Wed Nov 11 2026. No macro, syntax, notation, axiom, sorry.
-/
import Derived.Test.YtmbjlondehcheaaGreatDoorRows
import GoSem.ClaimSeven
namespace Go.Proofs.YtmbjlondehcheaaGreatDoor
namespace Rows

/-- THE TIED CARD OF 'busbartop.TopTalk'. -/
def topTalkCard : Claim7 := { stood := { row := topTalkRow, standIns := [], harness := (true, "e1bdbd59e088869df4076884200c9cd75142ed87bbaf7d968ccd235766ae3a9b"), looks := true }, kinds := [], alts := [], laidByText := true, laidKinds := [.data, .data, .data], laidTests := true, laidLooks := .later }
def TopTalkCardSaid : Prop := Claim7.holds Tryz.pinned (.plain (OpenSpec.ofChange topTalkSpec)) topTalkCard

/-- THE SECOND FORM's CARD OF 'busbartop.TopTalk'. -/
def topTalkUptoCard : Claim7 := { stood := { row := topTalkUptoRow, standIns := [], harness := (true, "e1bdbd59e088869df4076884200c9cd75142ed87bbaf7d968ccd235766ae3a9b"), looks := true }, kinds := [], alts := [], laidByText := true, laidKinds := [.data, .data, .data], laidTests := true, laidLooks := .later }
def TopTalkUptoCardSaid : Prop := Claim7.holds Tryz.pinned (.plain (OpenSpec.upto topTalkSpec)) topTalkUptoCard
end Rows
end Go.Proofs.YtmbjlondehcheaaGreatDoor
