/-
  No cell of these rows narrows 'for every input' (looked for: loops, veiled, ifaces, maps, wideKeys, modest, calm, conditions, laid).
  DERIVED. THE GIVEN ROWS OF THIS SEAT. 8 by the template 'for every input the law returns true; each argument reads behind the call as it read before'; 0 by the template 'total and deterministic' (their statements: YtdaoejofgmbhnaaTotals.lean).
  GIVEN WITH THE SEED: the statements are not yours to turn. If you find one false, say at which input.
  Laid BY PROGRAM, IN A SANDBOX (cutbox-rows.mjs): the forced cells as the released guide's own fill.sh prints them over the translation 89aee540aaf6ede1… (all of the seat's roots in one cut). By AI agents, Wed Nov 11 2026. No macro, syntax, notation, axiom, sorry.
-/
import Derived.Test.YtdaoejofgmbhnaaChecked
import GoSem.Claim
import GoSem.ClaimJoined
import GoSem.ClaimMapViews
import Derived.JoinedTies
import Derived.KernelRfl
namespace Go.Proofs.Ytdaoejofgmbhnaa
/- THE CELL 'sum', in the pinned program and in every row, IS THE sha256 OF THE DUMP (.gsa) THAT YtdaoejofgmbhnaaProg.lean LOADS. Nothing in Lean hashes anything: it is a label: what it is worth is what the hold of that sum in a sandbox is worth. -/
noncomputable def Try.pinned : Pinned := { name := "ytdaoejofgmbhnaa", sum := "89aee540aaf6ede1e6f06395ac6accc40ec623d7e8736a0a18350f18c6f84eea", checked := Try.checked }
namespace Rows
def none {H : Type} : Left H := { results := [], args := [] }

/-- 'busbarlaw02.LrcTells': WHATEVER THE INPUT: true; the input reads as it did. -/
def lrcTellsSpec : ChangeSpec := { name := "lrcTells", fn := fun _ => fun
  | [d] => { results := [.lit (.bool true)], args := [d] }
  | _ => none }
def lrcTellsRow : OpenClaim := { program := "ytdaoejofgmbhnaa", sum := "89aee540aaf6ede1e6f06395ac6accc40ec623d7e8736a0a18350f18c6f84eea", func := "busbar/busbarlaw02.LrcTells", spec := "lrcTells", unfollowed := true, recurses := true, apart := false }
def LrcTellsSaid : Prop := lrcTellsRow.holds Try.pinned (OpenSpec.ofChange lrcTellsSpec)

/-- ITS FALSE NEIGHBOUR: 'it returns false'. Refute it at one input. -/
def lrcTellsWrong : ChangeSpec := { name := "lrcTells", fn := fun _ => fun
  | [d] => { results := [.lit (.bool false)], args := [d] }
  | _ => none }
def LrcTellsWrongFalsely : Prop := lrcTellsRow.holds Try.pinned (OpenSpec.ofChange lrcTellsWrong)

/-- 'busbarlaw02.LrcBack': WHATEVER THE INPUT: true; the input reads as it did. -/
def lrcBackSpec : ChangeSpec := { name := "lrcBack", fn := fun _ => fun
  | [d1, d2, d3] => { results := [.lit (.bool true)], args := [d1, d2, d3] }
  | _ => none }
def lrcBackRow : OpenClaim := { program := "ytdaoejofgmbhnaa", sum := "89aee540aaf6ede1e6f06395ac6accc40ec623d7e8736a0a18350f18c6f84eea", func := "busbar/busbarlaw02.LrcBack", spec := "lrcBack", unfollowed := true, recurses := true, apart := false }
def LrcBackSaid : Prop := lrcBackRow.holds Try.pinned (OpenSpec.ofChange lrcBackSpec)

/-- ITS FALSE NEIGHBOUR: 'it returns false'. Refute it at one input. -/
def lrcBackWrong : ChangeSpec := { name := "lrcBack", fn := fun _ => fun
  | [d1, d2, d3] => { results := [.lit (.bool false)], args := [d1, d2, d3] }
  | _ => none }
def LrcBackWrongFalsely : Prop := lrcBackRow.holds Try.pinned (OpenSpec.ofChange lrcBackWrong)

/-- 'busbarlaw02.LrcOrder': WHATEVER THE INPUT: true; the input reads as it did. -/
def lrcOrderSpec : ChangeSpec := { name := "lrcOrder", fn := fun _ => fun
  | [d1, d2] => { results := [.lit (.bool true)], args := [d1, d2] }
  | _ => none }
def lrcOrderRow : OpenClaim := { program := "ytdaoejofgmbhnaa", sum := "89aee540aaf6ede1e6f06395ac6accc40ec623d7e8736a0a18350f18c6f84eea", func := "busbar/busbarlaw02.LrcOrder", spec := "lrcOrder", unfollowed := true, recurses := true, apart := false }
def LrcOrderSaid : Prop := lrcOrderRow.holds Try.pinned (OpenSpec.ofChange lrcOrderSpec)

/-- ITS FALSE NEIGHBOUR: 'it returns false'. Refute it at one input. -/
def lrcOrderWrong : ChangeSpec := { name := "lrcOrder", fn := fun _ => fun
  | [d1, d2] => { results := [.lit (.bool false)], args := [d1, d2] }
  | _ => none }
def LrcOrderWrongFalsely : Prop := lrcOrderRow.holds Try.pinned (OpenSpec.ofChange lrcOrderWrong)

/-- 'busbarlaw02.LrcParts': WHATEVER THE INPUT: true; the input reads as it did. -/
def lrcPartsSpec : ChangeSpec := { name := "lrcParts", fn := fun _ => fun
  | [d1, d2] => { results := [.lit (.bool true)], args := [d1, d2] }
  | _ => none }
def lrcPartsRow : OpenClaim := { program := "ytdaoejofgmbhnaa", sum := "89aee540aaf6ede1e6f06395ac6accc40ec623d7e8736a0a18350f18c6f84eea", func := "busbar/busbarlaw02.LrcParts", spec := "lrcParts", unfollowed := true, recurses := true, apart := false }
def LrcPartsSaid : Prop := lrcPartsRow.holds Try.pinned (OpenSpec.ofChange lrcPartsSpec)

/-- ITS FALSE NEIGHBOUR: 'it returns false'. Refute it at one input. -/
def lrcPartsWrong : ChangeSpec := { name := "lrcParts", fn := fun _ => fun
  | [d1, d2] => { results := [.lit (.bool false)], args := [d1, d2] }
  | _ => none }
def LrcPartsWrongFalsely : Prop := lrcPartsRow.holds Try.pinned (OpenSpec.ofChange lrcPartsWrong)

/-- 'busbarlaw04.WordTells': WHATEVER THE INPUT: true; the input reads as it did. -/
def wordTellsSpec : ChangeSpec := { name := "wordTells", fn := fun _ => fun
  | [d1, d2, d3, d4] => { results := [.lit (.bool true)], args := [d1, d2, d3, d4] }
  | _ => none }
def wordTellsRow : OpenClaim := { program := "ytdaoejofgmbhnaa", sum := "89aee540aaf6ede1e6f06395ac6accc40ec623d7e8736a0a18350f18c6f84eea", func := "busbar/busbarlaw04.WordTells", spec := "wordTells", apart := false }
def WordTellsSaid : Prop := wordTellsRow.holds Try.pinned (OpenSpec.ofChange wordTellsSpec)

/-- ITS FALSE NEIGHBOUR: 'it returns false'. Refute it at one input. -/
def wordTellsWrong : ChangeSpec := { name := "wordTells", fn := fun _ => fun
  | [d1, d2, d3, d4] => { results := [.lit (.bool false)], args := [d1, d2, d3, d4] }
  | _ => none }
def WordTellsWrongFalsely : Prop := wordTellsRow.holds Try.pinned (OpenSpec.ofChange wordTellsWrong)

/-- 'busbarlaw04.WordBack': WHATEVER THE INPUT: true; the input reads as it did. -/
def wordBackSpec : ChangeSpec := { name := "wordBack", fn := fun _ => fun
  | [d1, d2] => { results := [.lit (.bool true)], args := [d1, d2] }
  | _ => none }
def wordBackRow : OpenClaim := { program := "ytdaoejofgmbhnaa", sum := "89aee540aaf6ede1e6f06395ac6accc40ec623d7e8736a0a18350f18c6f84eea", func := "busbar/busbarlaw04.WordBack", spec := "wordBack", apart := false }
def WordBackSaid : Prop := wordBackRow.holds Try.pinned (OpenSpec.ofChange wordBackSpec)

/-- ITS FALSE NEIGHBOUR: 'it returns false'. Refute it at one input. -/
def wordBackWrong : ChangeSpec := { name := "wordBack", fn := fun _ => fun
  | [d1, d2] => { results := [.lit (.bool false)], args := [d1, d2] }
  | _ => none }
def WordBackWrongFalsely : Prop := wordBackRow.holds Try.pinned (OpenSpec.ofChange wordBackWrong)

/-- 'busbarlaw04.WordWithin': WHATEVER THE INPUT: true; the input reads as it did. -/
def wordWithinSpec : ChangeSpec := { name := "wordWithin", fn := fun _ => fun
  | [d1, d2] => { results := [.lit (.bool true)], args := [d1, d2] }
  | _ => none }
def wordWithinRow : OpenClaim := { program := "ytdaoejofgmbhnaa", sum := "89aee540aaf6ede1e6f06395ac6accc40ec623d7e8736a0a18350f18c6f84eea", func := "busbar/busbarlaw04.WordWithin", spec := "wordWithin", apart := false }
def WordWithinSaid : Prop := wordWithinRow.holds Try.pinned (OpenSpec.ofChange wordWithinSpec)

/-- ITS FALSE NEIGHBOUR: 'it returns false'. Refute it at one input. -/
def wordWithinWrong : ChangeSpec := { name := "wordWithin", fn := fun _ => fun
  | [d1, d2] => { results := [.lit (.bool false)], args := [d1, d2] }
  | _ => none }
def WordWithinWrongFalsely : Prop := wordWithinRow.holds Try.pinned (OpenSpec.ofChange wordWithinWrong)

/-- 'busbarlaw04.WordJoins': WHATEVER THE INPUT: true; the input reads as it did. -/
def wordJoinsSpec : ChangeSpec := { name := "wordJoins", fn := fun _ => fun
  | [d1, d2, d3, d4] => { results := [.lit (.bool true)], args := [d1, d2, d3, d4] }
  | _ => none }
def wordJoinsRow : OpenClaim := { program := "ytdaoejofgmbhnaa", sum := "89aee540aaf6ede1e6f06395ac6accc40ec623d7e8736a0a18350f18c6f84eea", func := "busbar/busbarlaw04.WordJoins", spec := "wordJoins", apart := false }
def WordJoinsSaid : Prop := wordJoinsRow.holds Try.pinned (OpenSpec.ofChange wordJoinsSpec)

/-- ITS FALSE NEIGHBOUR: 'it returns false'. Refute it at one input. -/
def wordJoinsWrong : ChangeSpec := { name := "wordJoins", fn := fun _ => fun
  | [d1, d2, d3, d4] => { results := [.lit (.bool false)], args := [d1, d2, d3, d4] }
  | _ => none }
def WordJoinsWrongFalsely : Prop := wordJoinsRow.holds Try.pinned (OpenSpec.ofChange wordJoinsWrong)

/- THE SECOND FORM. 'bulk': how many values and letters a reading holds, each counted each time it is reached (what is shared counts as often as it is met; a slice's spare places count too). A statement '..UptoSaid' is the law's where the arguments, and the package variables that the reading takes, are together of bulk at most 1048576: NARROWER than '..Said'. Prove '..Said' where nothing that the law and all that it calls make is longer than what came in: it says more and counts as full. Else prove '..UptoSaid'. A law counts once. -/
mutual
def uptoBulk {H : Type} : DataW H → Nat
  | .lit (.string bytes) => bytes.length + 1
  | .lit _ => 1
  | .nil => 1
  | .ptr d => uptoBulk d + 1
  | .slice elems spare => uptoBulkAll elems + uptoBulkAll spare + 1
  | .agg parts => uptoBulkAll parts + 1
  | .iface _ d => uptoBulk d + 1
  | .map entries => uptoBulkEntries entries + 1
  | .held _ => 1
def uptoBulkAll {H : Type} : List (DataW H) → Nat
  | [] => 0
  | d :: r => uptoBulk d + uptoBulkAll r
def uptoBulkEntries {H : Type} : List (Lit × DataW H) → Nat
  | [] => 0
  | x :: r => uptoBulkEntry x + uptoBulkEntries r
def uptoBulkEntry {H : Type} : Lit × DataW H → Nat
  | (.string bytes, d) => bytes.length + uptoBulk d + 1
  | (_, d) => uptoBulk d + 1
 end
def uptoSmall : (H : Type) → List (DataW H) → Bool := fun _ ds => decide (uptoBulkAll ds ≤ 1048576)
def OpenSpec.upto (s : _root_.Go.ChangeSpec) : _root_.Go.OpenSpec := { _root_.Go.OpenSpec.ofChange s with cond := some uptoSmall }

/-- 'busbarlaw02.LrcTells', WHERE WHAT IT READS IS OF BULK AT MOST 1048576: true; the input reads as it did. -/
def lrcTellsUptoRow : OpenClaim := { program := "ytdaoejofgmbhnaa", sum := "89aee540aaf6ede1e6f06395ac6accc40ec623d7e8736a0a18350f18c6f84eea", func := "busbar/busbarlaw02.LrcTells", spec := "lrcTells", unfollowed := true, recurses := true, apart := false, narrowed := true }
def LrcTellsUptoSaid : Prop := lrcTellsUptoRow.holds Try.pinned (OpenSpec.upto lrcTellsSpec)

/-- 'busbarlaw02.LrcBack', WHERE WHAT IT READS IS OF BULK AT MOST 1048576: true; the input reads as it did. -/
def lrcBackUptoRow : OpenClaim := { program := "ytdaoejofgmbhnaa", sum := "89aee540aaf6ede1e6f06395ac6accc40ec623d7e8736a0a18350f18c6f84eea", func := "busbar/busbarlaw02.LrcBack", spec := "lrcBack", unfollowed := true, recurses := true, apart := false, narrowed := true }
def LrcBackUptoSaid : Prop := lrcBackUptoRow.holds Try.pinned (OpenSpec.upto lrcBackSpec)

/-- 'busbarlaw02.LrcOrder', WHERE WHAT IT READS IS OF BULK AT MOST 1048576: true; the input reads as it did. -/
def lrcOrderUptoRow : OpenClaim := { program := "ytdaoejofgmbhnaa", sum := "89aee540aaf6ede1e6f06395ac6accc40ec623d7e8736a0a18350f18c6f84eea", func := "busbar/busbarlaw02.LrcOrder", spec := "lrcOrder", unfollowed := true, recurses := true, apart := false, narrowed := true }
def LrcOrderUptoSaid : Prop := lrcOrderUptoRow.holds Try.pinned (OpenSpec.upto lrcOrderSpec)

/-- 'busbarlaw02.LrcParts', WHERE WHAT IT READS IS OF BULK AT MOST 1048576: true; the input reads as it did. -/
def lrcPartsUptoRow : OpenClaim := { program := "ytdaoejofgmbhnaa", sum := "89aee540aaf6ede1e6f06395ac6accc40ec623d7e8736a0a18350f18c6f84eea", func := "busbar/busbarlaw02.LrcParts", spec := "lrcParts", unfollowed := true, recurses := true, apart := false, narrowed := true }
def LrcPartsUptoSaid : Prop := lrcPartsUptoRow.holds Try.pinned (OpenSpec.upto lrcPartsSpec)

/-- 'busbarlaw04.WordTells', WHERE WHAT IT READS IS OF BULK AT MOST 1048576: true; the input reads as it did. -/
def wordTellsUptoRow : OpenClaim := { program := "ytdaoejofgmbhnaa", sum := "89aee540aaf6ede1e6f06395ac6accc40ec623d7e8736a0a18350f18c6f84eea", func := "busbar/busbarlaw04.WordTells", spec := "wordTells", apart := false, narrowed := true }
def WordTellsUptoSaid : Prop := wordTellsUptoRow.holds Try.pinned (OpenSpec.upto wordTellsSpec)

/-- 'busbarlaw04.WordBack', WHERE WHAT IT READS IS OF BULK AT MOST 1048576: true; the input reads as it did. -/
def wordBackUptoRow : OpenClaim := { program := "ytdaoejofgmbhnaa", sum := "89aee540aaf6ede1e6f06395ac6accc40ec623d7e8736a0a18350f18c6f84eea", func := "busbar/busbarlaw04.WordBack", spec := "wordBack", apart := false, narrowed := true }
def WordBackUptoSaid : Prop := wordBackUptoRow.holds Try.pinned (OpenSpec.upto wordBackSpec)

/-- 'busbarlaw04.WordWithin', WHERE WHAT IT READS IS OF BULK AT MOST 1048576: true; the input reads as it did. -/
def wordWithinUptoRow : OpenClaim := { program := "ytdaoejofgmbhnaa", sum := "89aee540aaf6ede1e6f06395ac6accc40ec623d7e8736a0a18350f18c6f84eea", func := "busbar/busbarlaw04.WordWithin", spec := "wordWithin", apart := false, narrowed := true }
def WordWithinUptoSaid : Prop := wordWithinUptoRow.holds Try.pinned (OpenSpec.upto wordWithinSpec)

/-- 'busbarlaw04.WordJoins', WHERE WHAT IT READS IS OF BULK AT MOST 1048576: true; the input reads as it did. -/
def wordJoinsUptoRow : OpenClaim := { program := "ytdaoejofgmbhnaa", sum := "89aee540aaf6ede1e6f06395ac6accc40ec623d7e8736a0a18350f18c6f84eea", func := "busbar/busbarlaw04.WordJoins", spec := "wordJoins", apart := false, narrowed := true }
def WordJoinsUptoSaid : Prop := wordJoinsUptoRow.holds Try.pinned (OpenSpec.upto wordJoinsSpec)

end Rows
end Go.Proofs.Ytdaoejofgmbhnaa
