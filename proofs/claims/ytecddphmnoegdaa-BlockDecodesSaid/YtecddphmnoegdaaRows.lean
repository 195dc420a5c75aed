/-
  No cell of these rows narrows 'for every input' (looked for: loops, veiled, ifaces, maps, wideKeys, modest, calm, conditions, laid).
  DERIVED. THE GIVEN ROWS OF THIS SEAT. 7 by the template 'for every input the law returns true; each argument reads behind the call as it read before'; 0 by the template 'total and deterministic' (their statements: YtecddphmnoegdaaTotals.lean).
  GIVEN WITH THE SEED: the statements are not yours to turn. If you find one false, say at which input.
  Laid BY PROGRAM, IN A SANDBOX (cutbox-rows.mjs): the forced cells as the released guide's own fill.sh prints them over the translation 7ebb6fc62af81d61… (all of the seat's roots in one cut). By AI agents, Wed Nov 11 2026. No macro, syntax, notation, axiom, sorry.
-/
import Derived.Test.YtecddphmnoegdaaChecked
import GoSem.Claim
import GoSem.ClaimJoined
import GoSem.ClaimMapViews
import Derived.JoinedTies
import Derived.KernelRfl
namespace Go.Proofs.Ytecddphmnoegdaa
/- THE CELL 'sum', in the pinned program and in every row, IS THE sha256 OF THE DUMP (.gsa) THAT YtecddphmnoegdaaProg.lean LOADS. Nothing in Lean hashes anything: it is a label: what it is worth is what the hold of that sum in a sandbox is worth. -/
noncomputable def Try.pinned : Pinned := { name := "ytecddphmnoegdaa", sum := "7ebb6fc62af81d61c7d385dd33cfe559801b25985375981af9f3fcfa4983e029", checked := Try.checked }
namespace Rows
def none {H : Type} : Left H := { results := [], args := [] }

/-- 'ferrymanlaw07.BlockEncodes': WHATEVER THE INPUT: true; the input reads as it did. -/
def blockEncodesSpec : ChangeSpec := { name := "blockEncodes", fn := fun _ => fun
  | [d] => { results := [.lit (.bool true)], args := [d] }
  | _ => none }
def blockEncodesRow : OpenClaim := { program := "ytecddphmnoegdaa", sum := "7ebb6fc62af81d61c7d385dd33cfe559801b25985375981af9f3fcfa4983e029", func := "ferryman/ferrymanlaw07.BlockEncodes", spec := "blockEncodes", apart := false }
def BlockEncodesSaid : Prop := blockEncodesRow.holds Try.pinned (OpenSpec.ofChange blockEncodesSpec)

/-- ITS FALSE NEIGHBOUR: 'it returns false'. Refute it at one input. -/
def blockEncodesWrong : ChangeSpec := { name := "blockEncodes", fn := fun _ => fun
  | [d] => { results := [.lit (.bool false)], args := [d] }
  | _ => none }
def BlockEncodesWrongFalsely : Prop := blockEncodesRow.holds Try.pinned (OpenSpec.ofChange blockEncodesWrong)

/-- 'ferrymanlaw07.BlockShort': WHATEVER THE INPUT: true; the input reads as it did. -/
def blockShortSpec : ChangeSpec := { name := "blockShort", fn := fun _ => fun
  | [d1, d2, d3] => { results := [.lit (.bool true)], args := [d1, d2, d3] }
  | _ => none }
def blockShortRow : OpenClaim := { program := "ytecddphmnoegdaa", sum := "7ebb6fc62af81d61c7d385dd33cfe559801b25985375981af9f3fcfa4983e029", func := "ferryman/ferrymanlaw07.BlockShort", spec := "blockShort", apart := false }
def BlockShortSaid : Prop := blockShortRow.holds Try.pinned (OpenSpec.ofChange blockShortSpec)

/-- ITS FALSE NEIGHBOUR: 'it returns false'. Refute it at one input. -/
def blockShortWrong : ChangeSpec := { name := "blockShort", fn := fun _ => fun
  | [d1, d2, d3] => { results := [.lit (.bool false)], args := [d1, d2, d3] }
  | _ => none }
def BlockShortWrongFalsely : Prop := blockShortRow.holds Try.pinned (OpenSpec.ofChange blockShortWrong)

/-- 'ferrymanlaw07.BlockApart': WHATEVER THE INPUT: true; the input reads as it did. -/
def blockApartSpec : ChangeSpec := { name := "blockApart", fn := fun _ => fun
  | [d1, d2] => { results := [.lit (.bool true)], args := [d1, d2] }
  | _ => none }
def blockApartRow : OpenClaim := { program := "ytecddphmnoegdaa", sum := "7ebb6fc62af81d61c7d385dd33cfe559801b25985375981af9f3fcfa4983e029", func := "ferryman/ferrymanlaw07.BlockApart", spec := "blockApart", apart := false }
def BlockApartSaid : Prop := blockApartRow.holds Try.pinned (OpenSpec.ofChange blockApartSpec)

/-- ITS FALSE NEIGHBOUR: 'it returns false'. Refute it at one input. -/
def blockApartWrong : ChangeSpec := { name := "blockApart", fn := fun _ => fun
  | [d1, d2] => { results := [.lit (.bool false)], args := [d1, d2] }
  | _ => none }
def BlockApartWrongFalsely : Prop := blockApartRow.holds Try.pinned (OpenSpec.ofChange blockApartWrong)

/-- 'ferrymanlaw07.BlockDecodes': WHATEVER THE INPUT: true; the input reads as it did. -/
def blockDecodesSpec : ChangeSpec := { name := "blockDecodes", fn := fun _ => fun
  | [d] => { results := [.lit (.bool true)], args := [d] }
  | _ => none }
def blockDecodesRow : OpenClaim := { program := "ytecddphmnoegdaa", sum := "7ebb6fc62af81d61c7d385dd33cfe559801b25985375981af9f3fcfa4983e029", func := "ferryman/ferrymanlaw07.BlockDecodes", spec := "blockDecodes", unfollowed := true, recurses := true, apart := false }
def BlockDecodesSaid : Prop := blockDecodesRow.holds Try.pinned (OpenSpec.ofChange blockDecodesSpec)

/-- ITS FALSE NEIGHBOUR: 'it returns false'. Refute it at one input. -/
def blockDecodesWrong : ChangeSpec := { name := "blockDecodes", fn := fun _ => fun
  | [d] => { results := [.lit (.bool false)], args := [d] }
  | _ => none }
def BlockDecodesWrongFalsely : Prop := blockDecodesRow.holds Try.pinned (OpenSpec.ofChange blockDecodesWrong)

/-- 'ferrymanlaw07.BlockBack': WHATEVER THE INPUT: true; the input reads as it did. -/
def blockBackSpec : ChangeSpec := { name := "blockBack", fn := fun _ => fun
  | [d] => { results := [.lit (.bool true)], args := [d] }
  | _ => none }
def blockBackRow : OpenClaim := { program := "ytecddphmnoegdaa", sum := "7ebb6fc62af81d61c7d385dd33cfe559801b25985375981af9f3fcfa4983e029", func := "ferryman/ferrymanlaw07.BlockBack", spec := "blockBack", unfollowed := true, recurses := true, apart := false }
def BlockBackSaid : Prop := blockBackRow.holds Try.pinned (OpenSpec.ofChange blockBackSpec)

/-- ITS FALSE NEIGHBOUR: 'it returns false'. Refute it at one input. -/
def blockBackWrong : ChangeSpec := { name := "blockBack", fn := fun _ => fun
  | [d] => { results := [.lit (.bool false)], args := [d] }
  | _ => none }
def BlockBackWrongFalsely : Prop := blockBackRow.holds Try.pinned (OpenSpec.ofChange blockBackWrong)

/-- 'ferrymanlaw07.BlockOnce': WHATEVER THE INPUT: true; the input reads as it did. -/
def blockOnceSpec : ChangeSpec := { name := "blockOnce", fn := fun _ => fun
  | [d] => { results := [.lit (.bool true)], args := [d] }
  | _ => none }
def blockOnceRow : OpenClaim := { program := "ytecddphmnoegdaa", sum := "7ebb6fc62af81d61c7d385dd33cfe559801b25985375981af9f3fcfa4983e029", func := "ferryman/ferrymanlaw07.BlockOnce", spec := "blockOnce", unfollowed := true, recurses := true, apart := false }
def BlockOnceSaid : Prop := blockOnceRow.holds Try.pinned (OpenSpec.ofChange blockOnceSpec)

/-- ITS FALSE NEIGHBOUR: 'it returns false'. Refute it at one input. -/
def blockOnceWrong : ChangeSpec := { name := "blockOnce", fn := fun _ => fun
  | [d] => { results := [.lit (.bool false)], args := [d] }
  | _ => none }
def BlockOnceWrongFalsely : Prop := blockOnceRow.holds Try.pinned (OpenSpec.ofChange blockOnceWrong)

/-- 'ferrymanlaw07.BlockCuts': WHATEVER THE INPUT: true; the input reads as it did. -/
def blockCutsSpec : ChangeSpec := { name := "blockCuts", fn := fun _ => fun
  | [d1, d2, d3] => { results := [.lit (.bool true)], args := [d1, d2, d3] }
  | _ => none }
def blockCutsRow : OpenClaim := { program := "ytecddphmnoegdaa", sum := "7ebb6fc62af81d61c7d385dd33cfe559801b25985375981af9f3fcfa4983e029", func := "ferryman/ferrymanlaw07.BlockCuts", spec := "blockCuts", unfollowed := true, recurses := true, apart := false }
def BlockCutsSaid : Prop := blockCutsRow.holds Try.pinned (OpenSpec.ofChange blockCutsSpec)

/-- ITS FALSE NEIGHBOUR: 'it returns false'. Refute it at one input. -/
def blockCutsWrong : ChangeSpec := { name := "blockCuts", fn := fun _ => fun
  | [d1, d2, d3] => { results := [.lit (.bool false)], args := [d1, d2, d3] }
  | _ => none }
def BlockCutsWrongFalsely : Prop := blockCutsRow.holds Try.pinned (OpenSpec.ofChange blockCutsWrong)

/- THE SECOND FORM. 'bulk': how many values and letters a reading holds, each counted each time it is reached (what is shared counts as often as it is met; a slice's spare places count too). A statement '..UptoSaid' is the law's where the arguments, and the package variables that the reading takes, are together of bulk at most 1048576: NARROWER than '..Said'. Prove '..Said' where nothing that the law and all that it calls make is longer than what came in: it says more and counts as full. Else prove '..UptoSaid'. A law counts once. -/
mutual
def uptoBulk {H : Type} : DataW H → Nat
  | .lit (.string bytes) => bytes.length + 1
  | .lit _ => 1
  | .nil => 1
  | .ptr d => uptoBulk d + 1
  | .slice elems spare => uptoBulkAll elems + uptoBulkAll spare + 1
  | .agg parts => uptoBulkAll parts + 1
  | .iface _ d => uptoBulk d + 1
  | .map entries => uptoBulkEntries entries + 1
  | .held _ => 1
def uptoBulkAll {H : Type} : List (DataW H) → Nat
  | [] => 0
  | d :: r => uptoBulk d + uptoBulkAll r
def uptoBulkEntries {H : Type} : List (Lit × DataW H) → Nat
  | [] => 0
  | x :: r => uptoBulkEntry x + uptoBulkEntries r
def uptoBulkEntry {H : Type} : Lit × DataW H → Nat
  | (.string bytes, d) => bytes.length + uptoBulk d + 1
  | (_, d) => uptoBulk d + 1
 end
def uptoSmall : (H : Type) → List (DataW H) → Bool := fun _ ds => decide (uptoBulkAll ds ≤ 1048576)
def OpenSpec.upto (s : _root_.Go.ChangeSpec) : _root_.Go.OpenSpec := { _root_.Go.OpenSpec.ofChange s with cond := some uptoSmall }

/-- 'ferrymanlaw07.BlockEncodes', WHERE WHAT IT READS IS OF BULK AT MOST 1048576: true; the input reads as it did. -/
def blockEncodesUptoRow : OpenClaim := { program := "ytecddphmnoegdaa", sum := "7ebb6fc62af81d61c7d385dd33cfe559801b25985375981af9f3fcfa4983e029", func := "ferryman/ferrymanlaw07.BlockEncodes", spec := "blockEncodes", apart := false, narrowed := true }
def BlockEncodesUptoSaid : Prop := blockEncodesUptoRow.holds Try.pinned (OpenSpec.upto blockEncodesSpec)

/-- 'ferrymanlaw07.BlockShort', WHERE WHAT IT READS IS OF BULK AT MOST 1048576: true; the input reads as it did. -/
def blockShortUptoRow : OpenClaim := { program := "ytecddphmnoegdaa", sum := "7ebb6fc62af81d61c7d385dd33cfe559801b25985375981af9f3fcfa4983e029", func := "ferryman/ferrymanlaw07.BlockShort", spec := "blockShort", apart := false, narrowed := true }
def BlockShortUptoSaid : Prop := blockShortUptoRow.holds Try.pinned (OpenSpec.upto blockShortSpec)

/-- 'ferrymanlaw07.BlockApart', WHERE WHAT IT READS IS OF BULK AT MOST 1048576: true; the input reads as it did. -/
def blockApartUptoRow : OpenClaim := { program := "ytecddphmnoegdaa", sum := "7ebb6fc62af81d61c7d385dd33cfe559801b25985375981af9f3fcfa4983e029", func := "ferryman/ferrymanlaw07.BlockApart", spec := "blockApart", apart := false, narrowed := true }
def BlockApartUptoSaid : Prop := blockApartUptoRow.holds Try.pinned (OpenSpec.upto blockApartSpec)

/-- 'ferrymanlaw07.BlockDecodes', WHERE WHAT IT READS IS OF BULK AT MOST 1048576: true; the input reads as it did. -/
def blockDecodesUptoRow : OpenClaim := { program := "ytecddphmnoegdaa", sum := "7ebb6fc62af81d61c7d385dd33cfe559801b25985375981af9f3fcfa4983e029", func := "ferryman/ferrymanlaw07.BlockDecodes", spec := "blockDecodes", unfollowed := true, recurses := true, apart := false, narrowed := true }
def BlockDecodesUptoSaid : Prop := blockDecodesUptoRow.holds Try.pinned (OpenSpec.upto blockDecodesSpec)

/-- 'ferrymanlaw07.BlockBack', WHERE WHAT IT READS IS OF BULK AT MOST 1048576: true; the input reads as it did. -/
def blockBackUptoRow : OpenClaim := { program := "ytecddphmnoegdaa", sum := "7ebb6fc62af81d61c7d385dd33cfe559801b25985375981af9f3fcfa4983e029", func := "ferryman/ferrymanlaw07.BlockBack", spec := "blockBack", unfollowed := true, recurses := true, apart := false, narrowed := true }
def BlockBackUptoSaid : Prop := blockBackUptoRow.holds Try.pinned (OpenSpec.upto blockBackSpec)

/-- 'ferrymanlaw07.BlockOnce', WHERE WHAT IT READS IS OF BULK AT MOST 1048576: true; the input reads as it did. -/
def blockOnceUptoRow : OpenClaim := { program := "ytecddphmnoegdaa", sum := "7ebb6fc62af81d61c7d385dd33cfe559801b25985375981af9f3fcfa4983e029", func := "ferryman/ferrymanlaw07.BlockOnce", spec := "blockOnce", unfollowed := true, recurses := true, apart := false, narrowed := true }
def BlockOnceUptoSaid : Prop := blockOnceUptoRow.holds Try.pinned (OpenSpec.upto blockOnceSpec)

/-- 'ferrymanlaw07.BlockCuts', WHERE WHAT IT READS IS OF BULK AT MOST 1048576: true; the input reads as it did. -/
def blockCutsUptoRow : OpenClaim := { program := "ytecddphmnoegdaa", sum := "7ebb6fc62af81d61c7d385dd33cfe559801b25985375981af9f3fcfa4983e029", func := "ferryman/ferrymanlaw07.BlockCuts", spec := "blockCuts", unfollowed := true, recurses := true, apart := false, narrowed := true }
def BlockCutsUptoSaid : Prop := blockCutsUptoRow.holds Try.pinned (OpenSpec.upto blockCutsSpec)

end Rows
end Go.Proofs.Ytecddphmnoegdaa
