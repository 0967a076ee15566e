/-
  No cell of these rows narrows 'for every input' (looked for: loops, veiled, ifaces, maps, wideKeys, modest, calm, conditions, laid).
  DERIVED. THE GIVEN ROWS OF THIS SEAT. 6 by the template 'for every input the law returns true; each argument reads behind the call as it read before'; 0 by the template 'total and deterministic' (their statements: YtmbjlondehcheaaTotals.lean).
  GIVEN WITH THE SEED: the statements are not yours to turn. If you find one false, say at which input.
  Laid BY PROGRAM, IN A SANDBOX (cutbox-rows.mjs): the forced cells as the released guide's own fill.sh prints them over the translation 12cc4289341d7e09… (all of the seat's roots in one cut). By AI agents, Wed Nov 11 2026. No macro, syntax, notation, axiom, sorry.
-/
import Derived.Test.YtmbjlondehcheaaChecked
import GoSem.Claim
import GoSem.ClaimJoined
import GoSem.ClaimMapViews
import Derived.JoinedTies
import Derived.KernelRfl
namespace Go.Proofs.Ytmbjlondehcheaa
/- THE CELL 'sum', in the pinned program and in every row, IS THE sha256 OF THE DUMP (.gsa) THAT YtmbjlondehcheaaProg.lean LOADS. Nothing in Lean hashes anything: it is a label: what it is worth is what the hold of that sum in a sandbox is worth. -/
noncomputable def Try.pinned : Pinned := { name := "ytmbjlondehcheaa", sum := "12cc4289341d7e09cb2ee54fbfad524872bd3722e9eed56edbf90b352dca74c8", checked := Try.checked }
namespace Rows
def none {H : Type} : Left H := { results := [], args := [] }

/-- 'busbarlaw23.PairTells': WHATEVER THE INPUT: true; the input reads as it did. -/
def pairTellsSpec : ChangeSpec := { name := "pairTells", fn := fun _ => fun
  | [d1, d2] => { results := [.lit (.bool true)], args := [d1, d2] }
  | _ => none }
def pairTellsRow : OpenClaim := { program := "ytmbjlondehcheaa", sum := "12cc4289341d7e09cb2ee54fbfad524872bd3722e9eed56edbf90b352dca74c8", func := "busbar/busbarlaw23.PairTells", spec := "pairTells", unfollowed := true, recurses := true, plainKeys := false, apart := false }
def PairTellsSaid : Prop := pairTellsRow.holds Try.pinned (OpenSpec.ofChange pairTellsSpec)

/-- ITS FALSE NEIGHBOUR: 'it returns false'. Refute it at one input. -/
def pairTellsWrong : ChangeSpec := { name := "pairTells", fn := fun _ => fun
  | [d1, d2] => { results := [.lit (.bool false)], args := [d1, d2] }
  | _ => none }
def PairTellsWrongFalsely : Prop := pairTellsRow.holds Try.pinned (OpenSpec.ofChange pairTellsWrong)

/-- 'busbarlaw23.PairCounts': WHATEVER THE INPUT: true; the input reads as it did. -/
def pairCountsSpec : ChangeSpec := { name := "pairCounts", fn := fun _ => fun
  | [d1, d2] => { results := [.lit (.bool true)], args := [d1, d2] }
  | _ => none }
def pairCountsRow : OpenClaim := { program := "ytmbjlondehcheaa", sum := "12cc4289341d7e09cb2ee54fbfad524872bd3722e9eed56edbf90b352dca74c8", func := "busbar/busbarlaw23.PairCounts", spec := "pairCounts", unfollowed := true, recurses := true, plainKeys := false, apart := false }
def PairCountsSaid : Prop := pairCountsRow.holds Try.pinned (OpenSpec.ofChange pairCountsSpec)

/-- ITS FALSE NEIGHBOUR: 'it returns false'. Refute it at one input. -/
def pairCountsWrong : ChangeSpec := { name := "pairCounts", fn := fun _ => fun
  | [d1, d2] => { results := [.lit (.bool false)], args := [d1, d2] }
  | _ => none }
def PairCountsWrongFalsely : Prop := pairCountsRow.holds Try.pinned (OpenSpec.ofChange pairCountsWrong)

/-- 'busbarlaw23.PairOver': WHATEVER THE INPUT: true; the input reads as it did. -/
def pairOverSpec : ChangeSpec := { name := "pairOver", fn := fun _ => fun
  | [d1, d2] => { results := [.lit (.bool true)], args := [d1, d2] }
  | _ => none }
def pairOverRow : OpenClaim := { program := "ytmbjlondehcheaa", sum := "12cc4289341d7e09cb2ee54fbfad524872bd3722e9eed56edbf90b352dca74c8", func := "busbar/busbarlaw23.PairOver", spec := "pairOver", unfollowed := true, recurses := true, plainKeys := false, apart := false }
def PairOverSaid : Prop := pairOverRow.holds Try.pinned (OpenSpec.ofChange pairOverSpec)

/-- ITS FALSE NEIGHBOUR: 'it returns false'. Refute it at one input. -/
def pairOverWrong : ChangeSpec := { name := "pairOver", fn := fun _ => fun
  | [d1, d2] => { results := [.lit (.bool false)], args := [d1, d2] }
  | _ => none }
def PairOverWrongFalsely : Prop := pairOverRow.holds Try.pinned (OpenSpec.ofChange pairOverWrong)

/-- 'busbarlaw23.PairSerial': WHATEVER THE INPUT: true; the input reads as it did. -/
def pairSerialSpec : ChangeSpec := { name := "pairSerial", fn := fun _ => fun
  | [d1, d2, d3, d4, d5] => { results := [.lit (.bool true)], args := [d1, d2, d3, d4, d5] }
  | _ => none }
def pairSerialRow : OpenClaim := { program := "ytmbjlondehcheaa", sum := "12cc4289341d7e09cb2ee54fbfad524872bd3722e9eed56edbf90b352dca74c8", func := "busbar/busbarlaw23.PairSerial", spec := "pairSerial", unfollowed := true, recurses := true, plainKeys := false, apart := false }
def PairSerialSaid : Prop := pairSerialRow.holds Try.pinned (OpenSpec.ofChange pairSerialSpec)

/-- ITS FALSE NEIGHBOUR: 'it returns false'. Refute it at one input. -/
def pairSerialWrong : ChangeSpec := { name := "pairSerial", fn := fun _ => fun
  | [d1, d2, d3, d4, d5] => { results := [.lit (.bool false)], args := [d1, d2, d3, d4, d5] }
  | _ => none }
def PairSerialWrongFalsely : Prop := pairSerialRow.holds Try.pinned (OpenSpec.ofChange pairSerialWrong)

/-- 'busbarlaw23.PairApart': WHATEVER THE INPUT: true; the input reads as it did. -/
def pairApartSpec : ChangeSpec := { name := "pairApart", fn := fun _ => fun
  | [d1, d2, d3] => { results := [.lit (.bool true)], args := [d1, d2, d3] }
  | _ => none }
def pairApartRow : OpenClaim := { program := "ytmbjlondehcheaa", sum := "12cc4289341d7e09cb2ee54fbfad524872bd3722e9eed56edbf90b352dca74c8", func := "busbar/busbarlaw23.PairApart", spec := "pairApart", unfollowed := true, recurses := true, plainKeys := false, apart := false }
def PairApartSaid : Prop := pairApartRow.holds Try.pinned (OpenSpec.ofChange pairApartSpec)

/-- ITS FALSE NEIGHBOUR: 'it returns false'. Refute it at one input. -/
def pairApartWrong : ChangeSpec := { name := "pairApart", fn := fun _ => fun
  | [d1, d2, d3] => { results := [.lit (.bool false)], args := [d1, d2, d3] }
  | _ => none }
def PairApartWrongFalsely : Prop := pairApartRow.holds Try.pinned (OpenSpec.ofChange pairApartWrong)

/-- 'busbarlaw23.PairStrays': WHATEVER THE INPUT: true; the input reads as it did. -/
def pairStraysSpec : ChangeSpec := { name := "pairStrays", fn := fun _ => fun
  | [d1, d2, d3] => { results := [.lit (.bool true)], args := [d1, d2, d3] }
  | _ => none }
def pairStraysRow : OpenClaim := { program := "ytmbjlondehcheaa", sum := "12cc4289341d7e09cb2ee54fbfad524872bd3722e9eed56edbf90b352dca74c8", func := "busbar/busbarlaw23.PairStrays", spec := "pairStrays", unfollowed := true, recurses := true, plainKeys := false, apart := false }
def PairStraysSaid : Prop := pairStraysRow.holds Try.pinned (OpenSpec.ofChange pairStraysSpec)

/-- ITS FALSE NEIGHBOUR: 'it returns false'. Refute it at one input. -/
def pairStraysWrong : ChangeSpec := { name := "pairStrays", fn := fun _ => fun
  | [d1, d2, d3] => { results := [.lit (.bool false)], args := [d1, d2, d3] }
  | _ => none }
def PairStraysWrongFalsely : Prop := pairStraysRow.holds Try.pinned (OpenSpec.ofChange pairStraysWrong)

/- THE SECOND FORM. 'bulk': how many values and letters a reading holds, each counted each time it is reached (what is shared counts as often as it is met; a slice's spare places count too). A statement '..UptoSaid' is the law's where the arguments, and the package variables that the reading takes, are together of bulk at most 1048576: NARROWER than '..Said'. Prove '..Said' where nothing that the law and all that it calls make is longer than what came in: it says more and counts as full. Else prove '..UptoSaid'. A law counts once. -/
mutual
def uptoBulk {H : Type} : DataW H → Nat
  | .lit (.string bytes) => bytes.length + 1
  | .lit _ => 1
  | .nil => 1
  | .ptr d => uptoBulk d + 1
  | .slice elems spare => uptoBulkAll elems + uptoBulkAll spare + 1
  | .agg parts => uptoBulkAll parts + 1
  | .iface _ d => uptoBulk d + 1
  | .map entries => uptoBulkEntries entries + 1
  | .held _ => 1
def uptoBulkAll {H : Type} : List (DataW H) → Nat
  | [] => 0
  | d :: r => uptoBulk d + uptoBulkAll r
def uptoBulkEntries {H : Type} : List (Lit × DataW H) → Nat
  | [] => 0
  | x :: r => uptoBulkEntry x + uptoBulkEntries r
def uptoBulkEntry {H : Type} : Lit × DataW H → Nat
  | (.string bytes, d) => bytes.length + uptoBulk d + 1
  | (_, d) => uptoBulk d + 1
 end
def uptoSmall : (H : Type) → List (DataW H) → Bool := fun _ ds => decide (uptoBulkAll ds ≤ 1048576)
def OpenSpec.upto (s : _root_.Go.ChangeSpec) : _root_.Go.OpenSpec := { _root_.Go.OpenSpec.ofChange s with cond := some uptoSmall }

/-- 'busbarlaw23.PairTells', WHERE WHAT IT READS IS OF BULK AT MOST 1048576: true; the input reads as it did. -/
def pairTellsUptoRow : OpenClaim := { program := "ytmbjlondehcheaa", sum := "12cc4289341d7e09cb2ee54fbfad524872bd3722e9eed56edbf90b352dca74c8", func := "busbar/busbarlaw23.PairTells", spec := "pairTells", unfollowed := true, recurses := true, plainKeys := false, apart := false, narrowed := true }
def PairTellsUptoSaid : Prop := pairTellsUptoRow.holds Try.pinned (OpenSpec.upto pairTellsSpec)

/-- 'busbarlaw23.PairCounts', WHERE WHAT IT READS IS OF BULK AT MOST 1048576: true; the input reads as it did. -/
def pairCountsUptoRow : OpenClaim := { program := "ytmbjlondehcheaa", sum := "12cc4289341d7e09cb2ee54fbfad524872bd3722e9eed56edbf90b352dca74c8", func := "busbar/busbarlaw23.PairCounts", spec := "pairCounts", unfollowed := true, recurses := true, plainKeys := false, apart := false, narrowed := true }
def PairCountsUptoSaid : Prop := pairCountsUptoRow.holds Try.pinned (OpenSpec.upto pairCountsSpec)

/-- 'busbarlaw23.PairOver', WHERE WHAT IT READS IS OF BULK AT MOST 1048576: true; the input reads as it did. -/
def pairOverUptoRow : OpenClaim := { program := "ytmbjlondehcheaa", sum := "12cc4289341d7e09cb2ee54fbfad524872bd3722e9eed56edbf90b352dca74c8", func := "busbar/busbarlaw23.PairOver", spec := "pairOver", unfollowed := true, recurses := true, plainKeys := false, apart := false, narrowed := true }
def PairOverUptoSaid : Prop := pairOverUptoRow.holds Try.pinned (OpenSpec.upto pairOverSpec)

/-- 'busbarlaw23.PairSerial', WHERE WHAT IT READS IS OF BULK AT MOST 1048576: true; the input reads as it did. -/
def pairSerialUptoRow : OpenClaim := { program := "ytmbjlondehcheaa", sum := "12cc4289341d7e09cb2ee54fbfad524872bd3722e9eed56edbf90b352dca74c8", func := "busbar/busbarlaw23.PairSerial", spec := "pairSerial", unfollowed := true, recurses := true, plainKeys := false, apart := false, narrowed := true }
def PairSerialUptoSaid : Prop := pairSerialUptoRow.holds Try.pinned (OpenSpec.upto pairSerialSpec)

/-- 'busbarlaw23.PairApart', WHERE WHAT IT READS IS OF BULK AT MOST 1048576: true; the input reads as it did. -/
def pairApartUptoRow : OpenClaim := { program := "ytmbjlondehcheaa", sum := "12cc4289341d7e09cb2ee54fbfad524872bd3722e9eed56edbf90b352dca74c8", func := "busbar/busbarlaw23.PairApart", spec := "pairApart", unfollowed := true, recurses := true, plainKeys := false, apart := false, narrowed := true }
def PairApartUptoSaid : Prop := pairApartUptoRow.holds Try.pinned (OpenSpec.upto pairApartSpec)

/-- 'busbarlaw23.PairStrays', WHERE WHAT IT READS IS OF BULK AT MOST 1048576: true; the input reads as it did. -/
def pairStraysUptoRow : OpenClaim := { program := "ytmbjlondehcheaa", sum := "12cc4289341d7e09cb2ee54fbfad524872bd3722e9eed56edbf90b352dca74c8", func := "busbar/busbarlaw23.PairStrays", spec := "pairStrays", unfollowed := true, recurses := true, plainKeys := false, apart := false, narrowed := true }
def PairStraysUptoSaid : Prop := pairStraysUptoRow.holds Try.pinned (OpenSpec.upto pairStraysSpec)

end Rows
end Go.Proofs.Ytmbjlondehcheaa
