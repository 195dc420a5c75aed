/-
  No cell of these rows narrows 'for every input' (looked for: loops, veiled, ifaces, maps, wideKeys, modest, calm, conditions, laid).
  DERIVED. THE GIVEN ROWS OF THIS SEAT. 8 by the template 'for every input the law returns true; each argument reads behind the call as it read before'; 0 by the template 'total and deterministic' (their statements: YtjkkkmgeolfhfaaTotals.lean).
  GIVEN WITH THE SEED: the statements are not yours to turn. If you find one false, say at which input.
  Laid BY PROGRAM, IN A SANDBOX (cutbox-rows.mjs): the forced cells as the released guide's own fill.sh prints them over the translation bc829aeca7d83d45… (all of the seat's roots in one cut). By AI agents, Wed Nov 11 2026. No macro, syntax, notation, axiom, sorry.
-/
import Derived.Test.YtjkkkmgeolfhfaaChecked
import GoSem.Claim
import GoSem.ClaimJoined
import GoSem.ClaimMapViews
import Derived.JoinedTies
import Derived.KernelRfl
namespace Go.Proofs.Ytjkkkmgeolfhfaa
/- THE CELL 'sum', in the pinned program and in every row, IS THE sha256 OF THE DUMP (.gsa) THAT YtjkkkmgeolfhfaaProg.lean LOADS. Nothing in Lean hashes anything: it is a label: what it is worth is what the hold of that sum in a sandbox is worth. -/
noncomputable def Try.pinned : Pinned := { name := "ytjkkkmgeolfhfaa", sum := "bc829aeca7d83d4578ea865927d91ade77f359a369c8d4d995f9404fc2c581ba", checked := Try.checked }
namespace Rows
def none {H : Type} : Left H := { results := [], args := [] }

/-- 'ferrymanlaw02.CrcSums': WHATEVER THE INPUT: true; the input reads as it did. -/
def crcSumsSpec : ChangeSpec := { name := "crcSums", fn := fun _ => fun
  | [d1, d2, d3] => { results := [.lit (.bool true)], args := [d1, d2, d3] }
  | _ => none }
def crcSumsRow : OpenClaim := { program := "ytjkkkmgeolfhfaa", sum := "bc829aeca7d83d4578ea865927d91ade77f359a369c8d4d995f9404fc2c581ba", func := "ferryman/ferrymanlaw02.CrcSums", spec := "crcSums", apart := false }
def CrcSumsSaid : Prop := crcSumsRow.holds Try.pinned (OpenSpec.ofChange crcSumsSpec)

/-- ITS FALSE NEIGHBOUR: 'it returns false'. Refute it at one input. -/
def crcSumsWrong : ChangeSpec := { name := "crcSums", fn := fun _ => fun
  | [d1, d2, d3] => { results := [.lit (.bool false)], args := [d1, d2, d3] }
  | _ => none }
def CrcSumsWrongFalsely : Prop := crcSumsRow.holds Try.pinned (OpenSpec.ofChange crcSumsWrong)

/-- 'ferrymanlaw02.CrcJoins': WHATEVER THE INPUT: true; the input reads as it did. -/
def crcJoinsSpec : ChangeSpec := { name := "crcJoins", fn := fun _ => fun
  | [d1, d2] => { results := [.lit (.bool true)], args := [d1, d2] }
  | _ => none }
def crcJoinsRow : OpenClaim := { program := "ytjkkkmgeolfhfaa", sum := "bc829aeca7d83d4578ea865927d91ade77f359a369c8d4d995f9404fc2c581ba", func := "ferryman/ferrymanlaw02.CrcJoins", spec := "crcJoins", apart := false }
def CrcJoinsSaid : Prop := crcJoinsRow.holds Try.pinned (OpenSpec.ofChange crcJoinsSpec)

/-- ITS FALSE NEIGHBOUR: 'it returns false'. Refute it at one input. -/
def crcJoinsWrong : ChangeSpec := { name := "crcJoins", fn := fun _ => fun
  | [d1, d2] => { results := [.lit (.bool false)], args := [d1, d2] }
  | _ => none }
def CrcJoinsWrongFalsely : Prop := crcJoinsRow.holds Try.pinned (OpenSpec.ofChange crcJoinsWrong)

/-- 'ferrymanlaw02.CrcBursts': WHATEVER THE INPUT: true; the input reads as it did. -/
def crcBurstsSpec : ChangeSpec := { name := "crcBursts", fn := fun _ => fun
  | [d1, d2, d3] => { results := [.lit (.bool true)], args := [d1, d2, d3] }
  | _ => none }
def crcBurstsRow : OpenClaim := { program := "ytjkkkmgeolfhfaa", sum := "bc829aeca7d83d4578ea865927d91ade77f359a369c8d4d995f9404fc2c581ba", func := "ferryman/ferrymanlaw02.CrcBursts", spec := "crcBursts", apart := false }
def CrcBurstsSaid : Prop := crcBurstsRow.holds Try.pinned (OpenSpec.ofChange crcBurstsSpec)

/-- ITS FALSE NEIGHBOUR: 'it returns false'. Refute it at one input. -/
def crcBurstsWrong : ChangeSpec := { name := "crcBursts", fn := fun _ => fun
  | [d1, d2, d3] => { results := [.lit (.bool false)], args := [d1, d2, d3] }
  | _ => none }
def CrcBurstsWrongFalsely : Prop := crcBurstsRow.holds Try.pinned (OpenSpec.ofChange crcBurstsWrong)

/-- 'ferrymanlaw02.CrcOdd': WHATEVER THE INPUT: true; the input reads as it did. -/
def crcOddSpec : ChangeSpec := { name := "crcOdd", fn := fun _ => fun
  | [d1, d2, d3, d4] => { results := [.lit (.bool true)], args := [d1, d2, d3, d4] }
  | _ => none }
def crcOddRow : OpenClaim := { program := "ytjkkkmgeolfhfaa", sum := "bc829aeca7d83d4578ea865927d91ade77f359a369c8d4d995f9404fc2c581ba", func := "ferryman/ferrymanlaw02.CrcOdd", spec := "crcOdd", apart := false }
def CrcOddSaid : Prop := crcOddRow.holds Try.pinned (OpenSpec.ofChange crcOddSpec)

/-- ITS FALSE NEIGHBOUR: 'it returns false'. Refute it at one input. -/
def crcOddWrong : ChangeSpec := { name := "crcOdd", fn := fun _ => fun
  | [d1, d2, d3, d4] => { results := [.lit (.bool false)], args := [d1, d2, d3, d4] }
  | _ => none }
def CrcOddWrongFalsely : Prop := crcOddRow.holds Try.pinned (OpenSpec.ofChange crcOddWrong)

/-- 'ferrymanlaw02.CrcLinear': WHATEVER THE INPUT: true; the input reads as it did. -/
def crcLinearSpec : ChangeSpec := { name := "crcLinear", fn := fun _ => fun
  | [d1, d2] => { results := [.lit (.bool true)], args := [d1, d2] }
  | _ => none }
def crcLinearRow : OpenClaim := { program := "ytjkkkmgeolfhfaa", sum := "bc829aeca7d83d4578ea865927d91ade77f359a369c8d4d995f9404fc2c581ba", func := "ferryman/ferrymanlaw02.CrcLinear", spec := "crcLinear", apart := false }
def CrcLinearSaid : Prop := crcLinearRow.holds Try.pinned (OpenSpec.ofChange crcLinearSpec)

/-- ITS FALSE NEIGHBOUR: 'it returns false'. Refute it at one input. -/
def crcLinearWrong : ChangeSpec := { name := "crcLinear", fn := fun _ => fun
  | [d1, d2] => { results := [.lit (.bool false)], args := [d1, d2] }
  | _ => none }
def CrcLinearWrongFalsely : Prop := crcLinearRow.holds Try.pinned (OpenSpec.ofChange crcLinearWrong)

/-- 'ferrymanlaw02.CrcEntries': WHATEVER THE INPUT: true; the input reads as it did. -/
def crcEntriesSpec : ChangeSpec := { name := "crcEntries", fn := fun _ => fun
  | [d1, d2] => { results := [.lit (.bool true)], args := [d1, d2] }
  | _ => none }
def crcEntriesRow : OpenClaim := { program := "ytjkkkmgeolfhfaa", sum := "bc829aeca7d83d4578ea865927d91ade77f359a369c8d4d995f9404fc2c581ba", func := "ferryman/ferrymanlaw02.CrcEntries", spec := "crcEntries", apart := false }
def CrcEntriesSaid : Prop := crcEntriesRow.holds Try.pinned (OpenSpec.ofChange crcEntriesSpec)

/-- ITS FALSE NEIGHBOUR: 'it returns false'. Refute it at one input. -/
def crcEntriesWrong : ChangeSpec := { name := "crcEntries", fn := fun _ => fun
  | [d1, d2] => { results := [.lit (.bool false)], args := [d1, d2] }
  | _ => none }
def CrcEntriesWrongFalsely : Prop := crcEntriesRow.holds Try.pinned (OpenSpec.ofChange crcEntriesWrong)

/-- 'ferrymanlaw02.CrcLast': WHATEVER THE INPUT: true; the input reads as it did. -/
def crcLastSpec : ChangeSpec := { name := "crcLast", fn := fun _ => fun
  | [d1, d2, d3, d4] => { results := [.lit (.bool true)], args := [d1, d2, d3, d4] }
  | _ => none }
def crcLastRow : OpenClaim := { program := "ytjkkkmgeolfhfaa", sum := "bc829aeca7d83d4578ea865927d91ade77f359a369c8d4d995f9404fc2c581ba", func := "ferryman/ferrymanlaw02.CrcLast", spec := "crcLast", apart := false }
def CrcLastSaid : Prop := crcLastRow.holds Try.pinned (OpenSpec.ofChange crcLastSpec)

/-- ITS FALSE NEIGHBOUR: 'it returns false'. Refute it at one input. -/
def crcLastWrong : ChangeSpec := { name := "crcLast", fn := fun _ => fun
  | [d1, d2, d3, d4] => { results := [.lit (.bool false)], args := [d1, d2, d3, d4] }
  | _ => none }
def CrcLastWrongFalsely : Prop := crcLastRow.holds Try.pinned (OpenSpec.ofChange crcLastWrong)

/-- 'ferrymanlaw02.CrcSeeds': WHATEVER THE INPUT: true; the input reads as it did. -/
def crcSeedsSpec : ChangeSpec := { name := "crcSeeds", fn := fun _ => fun
  | [d1, d2, d3] => { results := [.lit (.bool true)], args := [d1, d2, d3] }
  | _ => none }
def crcSeedsRow : OpenClaim := { program := "ytjkkkmgeolfhfaa", sum := "bc829aeca7d83d4578ea865927d91ade77f359a369c8d4d995f9404fc2c581ba", func := "ferryman/ferrymanlaw02.CrcSeeds", spec := "crcSeeds", apart := false }
def CrcSeedsSaid : Prop := crcSeedsRow.holds Try.pinned (OpenSpec.ofChange crcSeedsSpec)

/-- ITS FALSE NEIGHBOUR: 'it returns false'. Refute it at one input. -/
def crcSeedsWrong : ChangeSpec := { name := "crcSeeds", fn := fun _ => fun
  | [d1, d2, d3] => { results := [.lit (.bool false)], args := [d1, d2, d3] }
  | _ => none }
def CrcSeedsWrongFalsely : Prop := crcSeedsRow.holds Try.pinned (OpenSpec.ofChange crcSeedsWrong)

/- THE SECOND FORM. 'bulk': how many values and letters a reading holds, each counted each time it is reached (what is shared counts as often as it is met; a slice's spare places count too). A statement '..UptoSaid' is the law's where the arguments, and the package variables that the reading takes, are together of bulk at most 1048576: NARROWER than '..Said'. Prove '..Said' where nothing that the law and all that it calls make is longer than what came in: it says more and counts as full. Else prove '..UptoSaid'. A law counts once. -/
mutual
def uptoBulk {H : Type} : DataW H → Nat
  | .lit (.string bytes) => bytes.length + 1
  | .lit _ => 1
  | .nil => 1
  | .ptr d => uptoBulk d + 1
  | .slice elems spare => uptoBulkAll elems + uptoBulkAll spare + 1
  | .agg parts => uptoBulkAll parts + 1
  | .iface _ d => uptoBulk d + 1
  | .map entries => uptoBulkEntries entries + 1
  | .held _ => 1
def uptoBulkAll {H : Type} : List (DataW H) → Nat
  | [] => 0
  | d :: r => uptoBulk d + uptoBulkAll r
def uptoBulkEntries {H : Type} : List (Lit × DataW H) → Nat
  | [] => 0
  | x :: r => uptoBulkEntry x + uptoBulkEntries r
def uptoBulkEntry {H : Type} : Lit × DataW H → Nat
  | (.string bytes, d) => bytes.length + uptoBulk d + 1
  | (_, d) => uptoBulk d + 1
 end
def uptoSmall : (H : Type) → List (DataW H) → Bool := fun _ ds => decide (uptoBulkAll ds ≤ 1048576)
def OpenSpec.upto (s : _root_.Go.ChangeSpec) : _root_.Go.OpenSpec := { _root_.Go.OpenSpec.ofChange s with cond := some uptoSmall }

/-- 'ferrymanlaw02.CrcSums', WHERE WHAT IT READS IS OF BULK AT MOST 1048576: true; the input reads as it did. -/
def crcSumsUptoRow : OpenClaim := { program := "ytjkkkmgeolfhfaa", sum := "bc829aeca7d83d4578ea865927d91ade77f359a369c8d4d995f9404fc2c581ba", func := "ferryman/ferrymanlaw02.CrcSums", spec := "crcSums", apart := false, narrowed := true }
def CrcSumsUptoSaid : Prop := crcSumsUptoRow.holds Try.pinned (OpenSpec.upto crcSumsSpec)

/-- 'ferrymanlaw02.CrcJoins', WHERE WHAT IT READS IS OF BULK AT MOST 1048576: true; the input reads as it did. -/
def crcJoinsUptoRow : OpenClaim := { program := "ytjkkkmgeolfhfaa", sum := "bc829aeca7d83d4578ea865927d91ade77f359a369c8d4d995f9404fc2c581ba", func := "ferryman/ferrymanlaw02.CrcJoins", spec := "crcJoins", apart := false, narrowed := true }
def CrcJoinsUptoSaid : Prop := crcJoinsUptoRow.holds Try.pinned (OpenSpec.upto crcJoinsSpec)

/-- 'ferrymanlaw02.CrcBursts', WHERE WHAT IT READS IS OF BULK AT MOST 1048576: true; the input reads as it did. -/
def crcBurstsUptoRow : OpenClaim := { program := "ytjkkkmgeolfhfaa", sum := "bc829aeca7d83d4578ea865927d91ade77f359a369c8d4d995f9404fc2c581ba", func := "ferryman/ferrymanlaw02.CrcBursts", spec := "crcBursts", apart := false, narrowed := true }
def CrcBurstsUptoSaid : Prop := crcBurstsUptoRow.holds Try.pinned (OpenSpec.upto crcBurstsSpec)

/-- 'ferrymanlaw02.CrcOdd', WHERE WHAT IT READS IS OF BULK AT MOST 1048576: true; the input reads as it did. -/
def crcOddUptoRow : OpenClaim := { program := "ytjkkkmgeolfhfaa", sum := "bc829aeca7d83d4578ea865927d91ade77f359a369c8d4d995f9404fc2c581ba", func := "ferryman/ferrymanlaw02.CrcOdd", spec := "crcOdd", apart := false, narrowed := true }
def CrcOddUptoSaid : Prop := crcOddUptoRow.holds Try.pinned (OpenSpec.upto crcOddSpec)

/-- 'ferrymanlaw02.CrcLinear', WHERE WHAT IT READS IS OF BULK AT MOST 1048576: true; the input reads as it did. -/
def crcLinearUptoRow : OpenClaim := { program := "ytjkkkmgeolfhfaa", sum := "bc829aeca7d83d4578ea865927d91ade77f359a369c8d4d995f9404fc2c581ba", func := "ferryman/ferrymanlaw02.CrcLinear", spec := "crcLinear", apart := false, narrowed := true }
def CrcLinearUptoSaid : Prop := crcLinearUptoRow.holds Try.pinned (OpenSpec.upto crcLinearSpec)

/-- 'ferrymanlaw02.CrcEntries', WHERE WHAT IT READS IS OF BULK AT MOST 1048576: true; the input reads as it did. -/
def crcEntriesUptoRow : OpenClaim := { program := "ytjkkkmgeolfhfaa", sum := "bc829aeca7d83d4578ea865927d91ade77f359a369c8d4d995f9404fc2c581ba", func := "ferryman/ferrymanlaw02.CrcEntries", spec := "crcEntries", apart := false, narrowed := true }
def CrcEntriesUptoSaid : Prop := crcEntriesUptoRow.holds Try.pinned (OpenSpec.upto crcEntriesSpec)

/-- 'ferrymanlaw02.CrcLast', WHERE WHAT IT READS IS OF BULK AT MOST 1048576: true; the input reads as it did. -/
def crcLastUptoRow : OpenClaim := { program := "ytjkkkmgeolfhfaa", sum := "bc829aeca7d83d4578ea865927d91ade77f359a369c8d4d995f9404fc2c581ba", func := "ferryman/ferrymanlaw02.CrcLast", spec := "crcLast", apart := false, narrowed := true }
def CrcLastUptoSaid : Prop := crcLastUptoRow.holds Try.pinned (OpenSpec.upto crcLastSpec)

/-- 'ferrymanlaw02.CrcSeeds', WHERE WHAT IT READS IS OF BULK AT MOST 1048576: true; the input reads as it did. -/
def crcSeedsUptoRow : OpenClaim := { program := "ytjkkkmgeolfhfaa", sum := "bc829aeca7d83d4578ea865927d91ade77f359a369c8d4d995f9404fc2c581ba", func := "ferryman/ferrymanlaw02.CrcSeeds", spec := "crcSeeds", apart := false, narrowed := true }
def CrcSeedsUptoSaid : Prop := crcSeedsUptoRow.holds Try.pinned (OpenSpec.upto crcSeedsSpec)

end Rows
end Go.Proofs.Ytjkkkmgeolfhfaa
