/-
  No cell of these rows narrows 'for every input' (looked for: loops, veiled, ifaces, maps, wideKeys, modest, calm, conditions, laid).
  DERIVED. THE GIVEN ROWS OF THIS SEAT. 10 by the template 'for every input the law returns true; each argument reads behind the call as it read before'; 0 by the template 'total and deterministic' (their statements: YtbdfjaimgldokaaTotals.lean).
  GIVEN WITH THE SEED: the statements are not yours to turn. If you find one false, say at which input.
  Laid BY PROGRAM, IN A SANDBOX (cutbox-rows.mjs): the forced cells as the released guide's own fill.sh prints them over the translation e970b585f8b4b70e… (all of the seat's roots in one cut). By AI agents, Wed Nov 11 2026. No macro, syntax, notation, axiom, sorry.
-/
import Derived.Test.YtbdfjaimgldokaaChecked
import GoSem.Claim
import GoSem.ClaimJoined
import GoSem.ClaimMapViews
import Derived.JoinedTies
import Derived.KernelRfl
namespace Go.Proofs.Ytbdfjaimgldokaa
/- THE CELL 'sum', in the pinned program and in every row, IS THE sha256 OF THE DUMP (.gsa) THAT YtbdfjaimgldokaaProg.lean LOADS. Nothing in Lean hashes anything: it is a label: what it is worth is what the hold of that sum in a sandbox is worth. -/
noncomputable def Try.pinned : Pinned := { name := "ytbdfjaimgldokaa", sum := "e970b585f8b4b70ed394eb4eff4d0584d49134736684aadd4d186e507b3b4b34", checked := Try.checked }
namespace Rows
def none {H : Type} : Left H := { results := [], args := [] }

/-- 'busbarlaw01.CrcTells': WHATEVER THE INPUT: true; the input reads as it did. -/
def crcTellsSpec : ChangeSpec := { name := "crcTells", fn := fun _ => fun
  | [d1, d2] => { results := [.lit (.bool true)], args := [d1, d2] }
  | _ => none }
def crcTellsRow : OpenClaim := { program := "ytbdfjaimgldokaa", sum := "e970b585f8b4b70ed394eb4eff4d0584d49134736684aadd4d186e507b3b4b34", func := "busbar/busbarlaw01.CrcTells", spec := "crcTells", apart := false }
def CrcTellsSaid : Prop := crcTellsRow.holds Try.pinned (OpenSpec.ofChange crcTellsSpec)

/-- ITS FALSE NEIGHBOUR: 'it returns false'. Refute it at one input. -/
def crcTellsWrong : ChangeSpec := { name := "crcTells", fn := fun _ => fun
  | [d1, d2] => { results := [.lit (.bool false)], args := [d1, d2] }
  | _ => none }
def CrcTellsWrongFalsely : Prop := crcTellsRow.holds Try.pinned (OpenSpec.ofChange crcTellsWrong)

/-- 'busbarlaw01.CrcJoins': WHATEVER THE INPUT: true; the input reads as it did. -/
def crcJoinsSpec : ChangeSpec := { name := "crcJoins", fn := fun _ => fun
  | [d1, d2, d3] => { results := [.lit (.bool true)], args := [d1, d2, d3] }
  | _ => none }
def crcJoinsRow : OpenClaim := { program := "ytbdfjaimgldokaa", sum := "e970b585f8b4b70ed394eb4eff4d0584d49134736684aadd4d186e507b3b4b34", func := "busbar/busbarlaw01.CrcJoins", spec := "crcJoins", apart := false }
def CrcJoinsSaid : Prop := crcJoinsRow.holds Try.pinned (OpenSpec.ofChange crcJoinsSpec)

/-- ITS FALSE NEIGHBOUR: 'it returns false'. Refute it at one input. -/
def crcJoinsWrong : ChangeSpec := { name := "crcJoins", fn := fun _ => fun
  | [d1, d2, d3] => { results := [.lit (.bool false)], args := [d1, d2, d3] }
  | _ => none }
def CrcJoinsWrongFalsely : Prop := crcJoinsRow.holds Try.pinned (OpenSpec.ofChange crcJoinsWrong)

/-- 'busbarlaw01.CrcTurned': WHATEVER THE INPUT: true; the input reads as it did. -/
def crcTurnedSpec : ChangeSpec := { name := "crcTurned", fn := fun _ => fun
  | [d1, d2, d3] => { results := [.lit (.bool true)], args := [d1, d2, d3] }
  | _ => none }
def crcTurnedRow : OpenClaim := { program := "ytbdfjaimgldokaa", sum := "e970b585f8b4b70ed394eb4eff4d0584d49134736684aadd4d186e507b3b4b34", func := "busbar/busbarlaw01.CrcTurned", spec := "crcTurned", apart := false }
def CrcTurnedSaid : Prop := crcTurnedRow.holds Try.pinned (OpenSpec.ofChange crcTurnedSpec)

/-- ITS FALSE NEIGHBOUR: 'it returns false'. Refute it at one input. -/
def crcTurnedWrong : ChangeSpec := { name := "crcTurned", fn := fun _ => fun
  | [d1, d2, d3] => { results := [.lit (.bool false)], args := [d1, d2, d3] }
  | _ => none }
def CrcTurnedWrongFalsely : Prop := crcTurnedRow.holds Try.pinned (OpenSpec.ofChange crcTurnedWrong)

/-- 'busbarlaw01.CrcLike': WHATEVER THE INPUT: true; the input reads as it did. -/
def crcLikeSpec : ChangeSpec := { name := "crcLike", fn := fun _ => fun
  | [d1, d2, d3] => { results := [.lit (.bool true)], args := [d1, d2, d3] }
  | _ => none }
def crcLikeRow : OpenClaim := { program := "ytbdfjaimgldokaa", sum := "e970b585f8b4b70ed394eb4eff4d0584d49134736684aadd4d186e507b3b4b34", func := "busbar/busbarlaw01.CrcLike", spec := "crcLike", apart := false }
def CrcLikeSaid : Prop := crcLikeRow.holds Try.pinned (OpenSpec.ofChange crcLikeSpec)

/-- ITS FALSE NEIGHBOUR: 'it returns false'. Refute it at one input. -/
def crcLikeWrong : ChangeSpec := { name := "crcLike", fn := fun _ => fun
  | [d1, d2, d3] => { results := [.lit (.bool false)], args := [d1, d2, d3] }
  | _ => none }
def CrcLikeWrongFalsely : Prop := crcLikeRow.holds Try.pinned (OpenSpec.ofChange crcLikeWrong)

/-- 'busbarlaw01.CrcZeros': WHATEVER THE INPUT: true; the input reads as it did. -/
def crcZerosSpec : ChangeSpec := { name := "crcZeros", fn := fun _ => fun
  | [d1, d2, d3] => { results := [.lit (.bool true)], args := [d1, d2, d3] }
  | _ => none }
def crcZerosRow : OpenClaim := { program := "ytbdfjaimgldokaa", sum := "e970b585f8b4b70ed394eb4eff4d0584d49134736684aadd4d186e507b3b4b34", func := "busbar/busbarlaw01.CrcZeros", spec := "crcZeros", apart := false }
def CrcZerosSaid : Prop := crcZerosRow.holds Try.pinned (OpenSpec.ofChange crcZerosSpec)

/-- ITS FALSE NEIGHBOUR: 'it returns false'. Refute it at one input. -/
def crcZerosWrong : ChangeSpec := { name := "crcZeros", fn := fun _ => fun
  | [d1, d2, d3] => { results := [.lit (.bool false)], args := [d1, d2, d3] }
  | _ => none }
def CrcZerosWrongFalsely : Prop := crcZerosRow.holds Try.pinned (OpenSpec.ofChange crcZerosWrong)

/-- 'busbarlaw03.HexaTells': WHATEVER THE INPUT: true; the input reads as it did. -/
def hexaTellsSpec : ChangeSpec := { name := "hexaTells", fn := fun _ => fun
  | [d1, d2, d3] => { results := [.lit (.bool true)], args := [d1, d2, d3] }
  | _ => none }
def hexaTellsRow : OpenClaim := { program := "ytbdfjaimgldokaa", sum := "e970b585f8b4b70ed394eb4eff4d0584d49134736684aadd4d186e507b3b4b34", func := "busbar/busbarlaw03.HexaTells", spec := "hexaTells", inPlace := ["internal/abi.NoEscape"], apart := false }
def HexaTellsSaid : Prop := hexaTellsRow.holds Try.pinned (OpenSpec.ofChange hexaTellsSpec)

/-- ITS FALSE NEIGHBOUR: 'it returns false'. Refute it at one input. -/
def hexaTellsWrong : ChangeSpec := { name := "hexaTells", fn := fun _ => fun
  | [d1, d2, d3] => { results := [.lit (.bool false)], args := [d1, d2, d3] }
  | _ => none }
def HexaTellsWrongFalsely : Prop := hexaTellsRow.holds Try.pinned (OpenSpec.ofChange hexaTellsWrong)

/-- 'busbarlaw03.HexaBack': WHATEVER THE INPUT: true; the input reads as it did. -/
def hexaBackSpec : ChangeSpec := { name := "hexaBack", fn := fun _ => fun
  | [d1, d2] => { results := [.lit (.bool true)], args := [d1, d2] }
  | _ => none }
def hexaBackRow : OpenClaim := { program := "ytbdfjaimgldokaa", sum := "e970b585f8b4b70ed394eb4eff4d0584d49134736684aadd4d186e507b3b4b34", func := "busbar/busbarlaw03.HexaBack", spec := "hexaBack", inPlace := ["internal/abi.NoEscape"], apart := false }
def HexaBackSaid : Prop := hexaBackRow.holds Try.pinned (OpenSpec.ofChange hexaBackSpec)

/-- ITS FALSE NEIGHBOUR: 'it returns false'. Refute it at one input. -/
def hexaBackWrong : ChangeSpec := { name := "hexaBack", fn := fun _ => fun
  | [d1, d2] => { results := [.lit (.bool false)], args := [d1, d2] }
  | _ => none }
def HexaBackWrongFalsely : Prop := hexaBackRow.holds Try.pinned (OpenSpec.ofChange hexaBackWrong)

/-- 'busbarlaw03.HexaBad': WHATEVER THE INPUT: true; the input reads as it did. -/
def hexaBadSpec : ChangeSpec := { name := "hexaBad", fn := fun _ => fun
  | [d1, d2, d3] => { results := [.lit (.bool true)], args := [d1, d2, d3] }
  | _ => none }
def hexaBadRow : OpenClaim := { program := "ytbdfjaimgldokaa", sum := "e970b585f8b4b70ed394eb4eff4d0584d49134736684aadd4d186e507b3b4b34", func := "busbar/busbarlaw03.HexaBad", spec := "hexaBad", inPlace := ["internal/abi.NoEscape"], apart := false }
def HexaBadSaid : Prop := hexaBadRow.holds Try.pinned (OpenSpec.ofChange hexaBadSpec)

/-- ITS FALSE NEIGHBOUR: 'it returns false'. Refute it at one input. -/
def hexaBadWrong : ChangeSpec := { name := "hexaBad", fn := fun _ => fun
  | [d1, d2, d3] => { results := [.lit (.bool false)], args := [d1, d2, d3] }
  | _ => none }
def HexaBadWrongFalsely : Prop := hexaBadRow.holds Try.pinned (OpenSpec.ofChange hexaBadWrong)

/-- 'busbarlaw03.HexaOrder': WHATEVER THE INPUT: true; the input reads as it did. -/
def hexaOrderSpec : ChangeSpec := { name := "hexaOrder", fn := fun _ => fun
  | [d1, d2, d3] => { results := [.lit (.bool true)], args := [d1, d2, d3] }
  | _ => none }
def hexaOrderRow : OpenClaim := { program := "ytbdfjaimgldokaa", sum := "e970b585f8b4b70ed394eb4eff4d0584d49134736684aadd4d186e507b3b4b34", func := "busbar/busbarlaw03.HexaOrder", spec := "hexaOrder", inPlace := ["internal/abi.NoEscape"], apart := false }
def HexaOrderSaid : Prop := hexaOrderRow.holds Try.pinned (OpenSpec.ofChange hexaOrderSpec)

/-- ITS FALSE NEIGHBOUR: 'it returns false'. Refute it at one input. -/
def hexaOrderWrong : ChangeSpec := { name := "hexaOrder", fn := fun _ => fun
  | [d1, d2, d3] => { results := [.lit (.bool false)], args := [d1, d2, d3] }
  | _ => none }
def HexaOrderWrongFalsely : Prop := hexaOrderRow.holds Try.pinned (OpenSpec.ofChange hexaOrderWrong)

/-- 'busbarlaw03.HexaEach': WHATEVER THE INPUT: true; the input reads as it did. -/
def hexaEachSpec : ChangeSpec := { name := "hexaEach", fn := fun _ => fun
  | [d1, d2] => { results := [.lit (.bool true)], args := [d1, d2] }
  | _ => none }
def hexaEachRow : OpenClaim := { program := "ytbdfjaimgldokaa", sum := "e970b585f8b4b70ed394eb4eff4d0584d49134736684aadd4d186e507b3b4b34", func := "busbar/busbarlaw03.HexaEach", spec := "hexaEach", inPlace := ["internal/abi.NoEscape"], apart := false }
def HexaEachSaid : Prop := hexaEachRow.holds Try.pinned (OpenSpec.ofChange hexaEachSpec)

/-- ITS FALSE NEIGHBOUR: 'it returns false'. Refute it at one input. -/
def hexaEachWrong : ChangeSpec := { name := "hexaEach", fn := fun _ => fun
  | [d1, d2] => { results := [.lit (.bool false)], args := [d1, d2] }
  | _ => none }
def HexaEachWrongFalsely : Prop := hexaEachRow.holds Try.pinned (OpenSpec.ofChange hexaEachWrong)

/- THE SECOND FORM. 'bulk': how many values and letters a reading holds, each counted each time it is reached (what is shared counts as often as it is met; a slice's spare places count too). A statement '..UptoSaid' is the law's where the arguments, and the package variables that the reading takes, are together of bulk at most 1048576: NARROWER than '..Said'. Prove '..Said' where nothing that the law and all that it calls make is longer than what came in: it says more and counts as full. Else prove '..UptoSaid'. A law counts once. -/
mutual
def uptoBulk {H : Type} : DataW H → Nat
  | .lit (.string bytes) => bytes.length + 1
  | .lit _ => 1
  | .nil => 1
  | .ptr d => uptoBulk d + 1
  | .slice elems spare => uptoBulkAll elems + uptoBulkAll spare + 1
  | .agg parts => uptoBulkAll parts + 1
  | .iface _ d => uptoBulk d + 1
  | .map entries => uptoBulkEntries entries + 1
  | .held _ => 1
def uptoBulkAll {H : Type} : List (DataW H) → Nat
  | [] => 0
  | d :: r => uptoBulk d + uptoBulkAll r
def uptoBulkEntries {H : Type} : List (Lit × DataW H) → Nat
  | [] => 0
  | x :: r => uptoBulkEntry x + uptoBulkEntries r
def uptoBulkEntry {H : Type} : Lit × DataW H → Nat
  | (.string bytes, d) => bytes.length + uptoBulk d + 1
  | (_, d) => uptoBulk d + 1
 end
def uptoSmall : (H : Type) → List (DataW H) → Bool := fun _ ds => decide (uptoBulkAll ds ≤ 1048576)
def OpenSpec.upto (s : _root_.Go.ChangeSpec) : _root_.Go.OpenSpec := { _root_.Go.OpenSpec.ofChange s with cond := some uptoSmall }

/-- 'busbarlaw01.CrcTells', WHERE WHAT IT READS IS OF BULK AT MOST 1048576: true; the input reads as it did. -/
def crcTellsUptoRow : OpenClaim := { program := "ytbdfjaimgldokaa", sum := "e970b585f8b4b70ed394eb4eff4d0584d49134736684aadd4d186e507b3b4b34", func := "busbar/busbarlaw01.CrcTells", spec := "crcTells", apart := false, narrowed := true }
def CrcTellsUptoSaid : Prop := crcTellsUptoRow.holds Try.pinned (OpenSpec.upto crcTellsSpec)

/-- 'busbarlaw01.CrcJoins', WHERE WHAT IT READS IS OF BULK AT MOST 1048576: true; the input reads as it did. -/
def crcJoinsUptoRow : OpenClaim := { program := "ytbdfjaimgldokaa", sum := "e970b585f8b4b70ed394eb4eff4d0584d49134736684aadd4d186e507b3b4b34", func := "busbar/busbarlaw01.CrcJoins", spec := "crcJoins", apart := false, narrowed := true }
def CrcJoinsUptoSaid : Prop := crcJoinsUptoRow.holds Try.pinned (OpenSpec.upto crcJoinsSpec)

/-- 'busbarlaw01.CrcTurned', WHERE WHAT IT READS IS OF BULK AT MOST 1048576: true; the input reads as it did. -/
def crcTurnedUptoRow : OpenClaim := { program := "ytbdfjaimgldokaa", sum := "e970b585f8b4b70ed394eb4eff4d0584d49134736684aadd4d186e507b3b4b34", func := "busbar/busbarlaw01.CrcTurned", spec := "crcTurned", apart := false, narrowed := true }
def CrcTurnedUptoSaid : Prop := crcTurnedUptoRow.holds Try.pinned (OpenSpec.upto crcTurnedSpec)

/-- 'busbarlaw01.CrcLike', WHERE WHAT IT READS IS OF BULK AT MOST 1048576: true; the input reads as it did. -/
def crcLikeUptoRow : OpenClaim := { program := "ytbdfjaimgldokaa", sum := "e970b585f8b4b70ed394eb4eff4d0584d49134736684aadd4d186e507b3b4b34", func := "busbar/busbarlaw01.CrcLike", spec := "crcLike", apart := false, narrowed := true }
def CrcLikeUptoSaid : Prop := crcLikeUptoRow.holds Try.pinned (OpenSpec.upto crcLikeSpec)

/-- 'busbarlaw01.CrcZeros', WHERE WHAT IT READS IS OF BULK AT MOST 1048576: true; the input reads as it did. -/
def crcZerosUptoRow : OpenClaim := { program := "ytbdfjaimgldokaa", sum := "e970b585f8b4b70ed394eb4eff4d0584d49134736684aadd4d186e507b3b4b34", func := "busbar/busbarlaw01.CrcZeros", spec := "crcZeros", apart := false, narrowed := true }
def CrcZerosUptoSaid : Prop := crcZerosUptoRow.holds Try.pinned (OpenSpec.upto crcZerosSpec)

/-- 'busbarlaw03.HexaTells', WHERE WHAT IT READS IS OF BULK AT MOST 1048576: true; the input reads as it did. -/
def hexaTellsUptoRow : OpenClaim := { program := "ytbdfjaimgldokaa", sum := "e970b585f8b4b70ed394eb4eff4d0584d49134736684aadd4d186e507b3b4b34", func := "busbar/busbarlaw03.HexaTells", spec := "hexaTells", inPlace := ["internal/abi.NoEscape"], apart := false, narrowed := true }
def HexaTellsUptoSaid : Prop := hexaTellsUptoRow.holds Try.pinned (OpenSpec.upto hexaTellsSpec)

/-- 'busbarlaw03.HexaBack', WHERE WHAT IT READS IS OF BULK AT MOST 1048576: true; the input reads as it did. -/
def hexaBackUptoRow : OpenClaim := { program := "ytbdfjaimgldokaa", sum := "e970b585f8b4b70ed394eb4eff4d0584d49134736684aadd4d186e507b3b4b34", func := "busbar/busbarlaw03.HexaBack", spec := "hexaBack", inPlace := ["internal/abi.NoEscape"], apart := false, narrowed := true }
def HexaBackUptoSaid : Prop := hexaBackUptoRow.holds Try.pinned (OpenSpec.upto hexaBackSpec)

/-- 'busbarlaw03.HexaBad', WHERE WHAT IT READS IS OF BULK AT MOST 1048576: true; the input reads as it did. -/
def hexaBadUptoRow : OpenClaim := { program := "ytbdfjaimgldokaa", sum := "e970b585f8b4b70ed394eb4eff4d0584d49134736684aadd4d186e507b3b4b34", func := "busbar/busbarlaw03.HexaBad", spec := "hexaBad", inPlace := ["internal/abi.NoEscape"], apart := false, narrowed := true }
def HexaBadUptoSaid : Prop := hexaBadUptoRow.holds Try.pinned (OpenSpec.upto hexaBadSpec)

/-- 'busbarlaw03.HexaOrder', WHERE WHAT IT READS IS OF BULK AT MOST 1048576: true; the input reads as it did. -/
def hexaOrderUptoRow : OpenClaim := { program := "ytbdfjaimgldokaa", sum := "e970b585f8b4b70ed394eb4eff4d0584d49134736684aadd4d186e507b3b4b34", func := "busbar/busbarlaw03.HexaOrder", spec := "hexaOrder", inPlace := ["internal/abi.NoEscape"], apart := false, narrowed := true }
def HexaOrderUptoSaid : Prop := hexaOrderUptoRow.holds Try.pinned (OpenSpec.upto hexaOrderSpec)

/-- 'busbarlaw03.HexaEach', WHERE WHAT IT READS IS OF BULK AT MOST 1048576: true; the input reads as it did. -/
def hexaEachUptoRow : OpenClaim := { program := "ytbdfjaimgldokaa", sum := "e970b585f8b4b70ed394eb4eff4d0584d49134736684aadd4d186e507b3b4b34", func := "busbar/busbarlaw03.HexaEach", spec := "hexaEach", inPlace := ["internal/abi.NoEscape"], apart := false, narrowed := true }
def HexaEachUptoSaid : Prop := hexaEachUptoRow.holds Try.pinned (OpenSpec.upto hexaEachSpec)

end Rows
end Go.Proofs.Ytbdfjaimgldokaa
