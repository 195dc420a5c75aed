/-
  No cell of these rows narrows 'for every input' (looked for: loops, veiled, ifaces, maps, wideKeys, modest, calm, conditions, laid).
  DERIVED. THE GIVEN ROWS OF THIS SEAT. 6 by the template 'for every input the law returns true; each argument reads behind the call as it read before'; 0 by the template 'total and deterministic' (their statements: YteojopdcmdipaaaTotals.lean).
  GIVEN WITH THE SEED: the statements are not yours to turn. If you find one false, say at which input.
  Laid BY PROGRAM, IN A SANDBOX (cutbox-rows.mjs): the forced cells as the released guide's own fill.sh prints them over the translation 0505e551c0c0b2bc… (all of the seat's roots in one cut). By AI agents, Wed Nov 11 2026. No macro, syntax, notation, axiom, sorry.
-/
import Derived.Test.YteojopdcmdipaaaChecked
import GoSem.Claim
import GoSem.ClaimJoined
import GoSem.ClaimMapViews
import Derived.JoinedTies
import Derived.KernelRfl
namespace Go.Proofs.Yteojopdcmdipaaa
/- THE CELL 'sum', in the pinned program and in every row, IS THE sha256 OF THE DUMP (.gsa) THAT YteojopdcmdipaaaProg.lean LOADS. Nothing in Lean hashes anything: it is a label: what it is worth is what the hold of that sum in a sandbox is worth. -/
noncomputable def Try.pinned : Pinned := { name := "yteojopdcmdipaaa", sum := "0505e551c0c0b2bc0ec873dff541ba16f61d031c1e68a97246cfde13e5f5ea16", checked := Try.checked }
namespace Rows
def none {H : Type} : Left H := { results := [], args := [] }

/-- 'ferrymanlaw05.CodecApart': WHATEVER THE INPUT: true; the input reads as it did. -/
def codecApartSpec : ChangeSpec := { name := "codecApart", fn := fun _ => fun
  | [d1, d2] => { results := [.lit (.bool true)], args := [d1, d2] }
  | _ => none }
def codecApartRow : OpenClaim := { program := "yteojopdcmdipaaa", sum := "0505e551c0c0b2bc0ec873dff541ba16f61d031c1e68a97246cfde13e5f5ea16", func := "ferryman/ferrymanlaw05.CodecApart", spec := "codecApart", unfollowed := true, recurses := true, apart := false }
def CodecApartSaid : Prop := codecApartRow.holds Try.pinned (OpenSpec.ofChange codecApartSpec)

/-- ITS FALSE NEIGHBOUR: 'it returns false'. Refute it at one input. -/
def codecApartWrong : ChangeSpec := { name := "codecApart", fn := fun _ => fun
  | [d1, d2] => { results := [.lit (.bool false)], args := [d1, d2] }
  | _ => none }
def CodecApartWrongFalsely : Prop := codecApartRow.holds Try.pinned (OpenSpec.ofChange codecApartWrong)

/-- 'ferrymanlaw05.CodecOps': WHATEVER THE INPUT: true; the input reads as it did. -/
def codecOpsSpec : ChangeSpec := { name := "codecOps", fn := fun _ => fun
  | [d1, d2] => { results := [.lit (.bool true)], args := [d1, d2] }
  | _ => none }
def codecOpsRow : OpenClaim := { program := "yteojopdcmdipaaa", sum := "0505e551c0c0b2bc0ec873dff541ba16f61d031c1e68a97246cfde13e5f5ea16", func := "ferryman/ferrymanlaw05.CodecOps", spec := "codecOps", unfollowed := true, recurses := true, apart := false }
def CodecOpsSaid : Prop := codecOpsRow.holds Try.pinned (OpenSpec.ofChange codecOpsSpec)

/-- ITS FALSE NEIGHBOUR: 'it returns false'. Refute it at one input. -/
def codecOpsWrong : ChangeSpec := { name := "codecOps", fn := fun _ => fun
  | [d1, d2] => { results := [.lit (.bool false)], args := [d1, d2] }
  | _ => none }
def CodecOpsWrongFalsely : Prop := codecOpsRow.holds Try.pinned (OpenSpec.ofChange codecOpsWrong)

/-- 'ferrymanlaw05.CodecStates': WHATEVER THE INPUT: true; the input reads as it did. -/
def codecStatesSpec : ChangeSpec := { name := "codecStates", fn := fun _ => fun
  | [d1, d2] => { results := [.lit (.bool true)], args := [d1, d2] }
  | _ => none }
def codecStatesRow : OpenClaim := { program := "yteojopdcmdipaaa", sum := "0505e551c0c0b2bc0ec873dff541ba16f61d031c1e68a97246cfde13e5f5ea16", func := "ferryman/ferrymanlaw05.CodecStates", spec := "codecStates", unfollowed := true, recurses := true, apart := false }
def CodecStatesSaid : Prop := codecStatesRow.holds Try.pinned (OpenSpec.ofChange codecStatesSpec)

/-- ITS FALSE NEIGHBOUR: 'it returns false'. Refute it at one input. -/
def codecStatesWrong : ChangeSpec := { name := "codecStates", fn := fun _ => fun
  | [d1, d2] => { results := [.lit (.bool false)], args := [d1, d2] }
  | _ => none }
def CodecStatesWrongFalsely : Prop := codecStatesRow.holds Try.pinned (OpenSpec.ofChange codecStatesWrong)

/-- 'ferrymanlaw05.CodecCuts': WHATEVER THE INPUT: true; the input reads as it did. -/
def codecCutsSpec : ChangeSpec := { name := "codecCuts", fn := fun _ => fun
  | [d1, d2, d3] => { results := [.lit (.bool true)], args := [d1, d2, d3] }
  | _ => none }
def codecCutsRow : OpenClaim := { program := "yteojopdcmdipaaa", sum := "0505e551c0c0b2bc0ec873dff541ba16f61d031c1e68a97246cfde13e5f5ea16", func := "ferryman/ferrymanlaw05.CodecCuts", spec := "codecCuts", unfollowed := true, recurses := true, apart := false }
def CodecCutsSaid : Prop := codecCutsRow.holds Try.pinned (OpenSpec.ofChange codecCutsSpec)

/-- ITS FALSE NEIGHBOUR: 'it returns false'. Refute it at one input. -/
def codecCutsWrong : ChangeSpec := { name := "codecCuts", fn := fun _ => fun
  | [d1, d2, d3] => { results := [.lit (.bool false)], args := [d1, d2, d3] }
  | _ => none }
def CodecCutsWrongFalsely : Prop := codecCutsRow.holds Try.pinned (OpenSpec.ofChange codecCutsWrong)

/-- 'ferrymanlaw05.CodecBack': WHATEVER THE INPUT: true; the input reads as it did. -/
def codecBackSpec : ChangeSpec := { name := "codecBack", fn := fun _ => fun
  | [d1, d2, d3] => { results := [.lit (.bool true)], args := [d1, d2, d3] }
  | _ => none }
def codecBackRow : OpenClaim := { program := "yteojopdcmdipaaa", sum := "0505e551c0c0b2bc0ec873dff541ba16f61d031c1e68a97246cfde13e5f5ea16", func := "ferryman/ferrymanlaw05.CodecBack", spec := "codecBack", unfollowed := true, recurses := true, apart := false }
def CodecBackSaid : Prop := codecBackRow.holds Try.pinned (OpenSpec.ofChange codecBackSpec)

/-- ITS FALSE NEIGHBOUR: 'it returns false'. Refute it at one input. -/
def codecBackWrong : ChangeSpec := { name := "codecBack", fn := fun _ => fun
  | [d1, d2, d3] => { results := [.lit (.bool false)], args := [d1, d2, d3] }
  | _ => none }
def CodecBackWrongFalsely : Prop := codecBackRow.holds Try.pinned (OpenSpec.ofChange codecBackWrong)

/-- 'ferrymanlaw05.CodecOnce': WHATEVER THE INPUT: true; the input reads as it did. -/
def codecOnceSpec : ChangeSpec := { name := "codecOnce", fn := fun _ => fun
  | [d] => { results := [.lit (.bool true)], args := [d] }
  | _ => none }
def codecOnceRow : OpenClaim := { program := "yteojopdcmdipaaa", sum := "0505e551c0c0b2bc0ec873dff541ba16f61d031c1e68a97246cfde13e5f5ea16", func := "ferryman/ferrymanlaw05.CodecOnce", spec := "codecOnce", unfollowed := true, recurses := true, apart := false }
def CodecOnceSaid : Prop := codecOnceRow.holds Try.pinned (OpenSpec.ofChange codecOnceSpec)

/-- ITS FALSE NEIGHBOUR: 'it returns false'. Refute it at one input. -/
def codecOnceWrong : ChangeSpec := { name := "codecOnce", fn := fun _ => fun
  | [d] => { results := [.lit (.bool false)], args := [d] }
  | _ => none }
def CodecOnceWrongFalsely : Prop := codecOnceRow.holds Try.pinned (OpenSpec.ofChange codecOnceWrong)

/- THE SECOND FORM. 'bulk': how many values and letters a reading holds, each counted each time it is reached (what is shared counts as often as it is met; a slice's spare places count too). A statement '..UptoSaid' is the law's where the arguments, and the package variables that the reading takes, are together of bulk at most 1048576: NARROWER than '..Said'. Prove '..Said' where nothing that the law and all that it calls make is longer than what came in: it says more and counts as full. Else prove '..UptoSaid'. A law counts once. -/
mutual
def uptoBulk {H : Type} : DataW H → Nat
  | .lit (.string bytes) => bytes.length + 1
  | .lit _ => 1
  | .nil => 1
  | .ptr d => uptoBulk d + 1
  | .slice elems spare => uptoBulkAll elems + uptoBulkAll spare + 1
  | .agg parts => uptoBulkAll parts + 1
  | .iface _ d => uptoBulk d + 1
  | .map entries => uptoBulkEntries entries + 1
  | .held _ => 1
def uptoBulkAll {H : Type} : List (DataW H) → Nat
  | [] => 0
  | d :: r => uptoBulk d + uptoBulkAll r
def uptoBulkEntries {H : Type} : List (Lit × DataW H) → Nat
  | [] => 0
  | x :: r => uptoBulkEntry x + uptoBulkEntries r
def uptoBulkEntry {H : Type} : Lit × DataW H → Nat
  | (.string bytes, d) => bytes.length + uptoBulk d + 1
  | (_, d) => uptoBulk d + 1
 end
def uptoSmall : (H : Type) → List (DataW H) → Bool := fun _ ds => decide (uptoBulkAll ds ≤ 1048576)
def OpenSpec.upto (s : _root_.Go.ChangeSpec) : _root_.Go.OpenSpec := { _root_.Go.OpenSpec.ofChange s with cond := some uptoSmall }

/-- 'ferrymanlaw05.CodecApart', WHERE WHAT IT READS IS OF BULK AT MOST 1048576: true; the input reads as it did. -/
def codecApartUptoRow : OpenClaim := { program := "yteojopdcmdipaaa", sum := "0505e551c0c0b2bc0ec873dff541ba16f61d031c1e68a97246cfde13e5f5ea16", func := "ferryman/ferrymanlaw05.CodecApart", spec := "codecApart", unfollowed := true, recurses := true, apart := false, narrowed := true }
def CodecApartUptoSaid : Prop := codecApartUptoRow.holds Try.pinned (OpenSpec.upto codecApartSpec)

/-- 'ferrymanlaw05.CodecOps', WHERE WHAT IT READS IS OF BULK AT MOST 1048576: true; the input reads as it did. -/
def codecOpsUptoRow : OpenClaim := { program := "yteojopdcmdipaaa", sum := "0505e551c0c0b2bc0ec873dff541ba16f61d031c1e68a97246cfde13e5f5ea16", func := "ferryman/ferrymanlaw05.CodecOps", spec := "codecOps", unfollowed := true, recurses := true, apart := false, narrowed := true }
def CodecOpsUptoSaid : Prop := codecOpsUptoRow.holds Try.pinned (OpenSpec.upto codecOpsSpec)

/-- 'ferrymanlaw05.CodecStates', WHERE WHAT IT READS IS OF BULK AT MOST 1048576: true; the input reads as it did. -/
def codecStatesUptoRow : OpenClaim := { program := "yteojopdcmdipaaa", sum := "0505e551c0c0b2bc0ec873dff541ba16f61d031c1e68a97246cfde13e5f5ea16", func := "ferryman/ferrymanlaw05.CodecStates", spec := "codecStates", unfollowed := true, recurses := true, apart := false, narrowed := true }
def CodecStatesUptoSaid : Prop := codecStatesUptoRow.holds Try.pinned (OpenSpec.upto codecStatesSpec)

/-- 'ferrymanlaw05.CodecCuts', WHERE WHAT IT READS IS OF BULK AT MOST 1048576: true; the input reads as it did. -/
def codecCutsUptoRow : OpenClaim := { program := "yteojopdcmdipaaa", sum := "0505e551c0c0b2bc0ec873dff541ba16f61d031c1e68a97246cfde13e5f5ea16", func := "ferryman/ferrymanlaw05.CodecCuts", spec := "codecCuts", unfollowed := true, recurses := true, apart := false, narrowed := true }
def CodecCutsUptoSaid : Prop := codecCutsUptoRow.holds Try.pinned (OpenSpec.upto codecCutsSpec)

/-- 'ferrymanlaw05.CodecBack', WHERE WHAT IT READS IS OF BULK AT MOST 1048576: true; the input reads as it did. -/
def codecBackUptoRow : OpenClaim := { program := "yteojopdcmdipaaa", sum := "0505e551c0c0b2bc0ec873dff541ba16f61d031c1e68a97246cfde13e5f5ea16", func := "ferryman/ferrymanlaw05.CodecBack", spec := "codecBack", unfollowed := true, recurses := true, apart := false, narrowed := true }
def CodecBackUptoSaid : Prop := codecBackUptoRow.holds Try.pinned (OpenSpec.upto codecBackSpec)

/-- 'ferrymanlaw05.CodecOnce', WHERE WHAT IT READS IS OF BULK AT MOST 1048576: true; the input reads as it did. -/
def codecOnceUptoRow : OpenClaim := { program := "yteojopdcmdipaaa", sum := "0505e551c0c0b2bc0ec873dff541ba16f61d031c1e68a97246cfde13e5f5ea16", func := "ferryman/ferrymanlaw05.CodecOnce", spec := "codecOnce", unfollowed := true, recurses := true, apart := false, narrowed := true }
def CodecOnceUptoSaid : Prop := codecOnceUptoRow.holds Try.pinned (OpenSpec.upto codecOnceSpec)

end Rows
end Go.Proofs.Yteojopdcmdipaaa
