/-
  No cell of these rows narrows 'for every input' (looked for: loops, veiled, ifaces, maps, wideKeys, modest, calm, conditions, laid).
  DERIVED. THE GIVEN ROWS OF THIS SEAT. 4 by the template 'for every input the law returns true; each argument reads behind the call as it read before'; 0 by the template 'total and deterministic' (their statements: YtodoeckikkeacaaTotals.lean).
  GIVEN WITH THE SEED: the statements are not yours to turn. If you find one false, say at which input.
  Laid BY PROGRAM, IN A SANDBOX (cutbox-rows.mjs): the forced cells as the released guide's own fill.sh prints them over the translation ba13027018e7c257… (all of the seat's roots in one cut). By AI agents, Wed Nov 11 2026. No macro, syntax, notation, axiom, sorry.
-/
import Derived.Test.YtodoeckikkeacaaChecked
import GoSem.Claim
import GoSem.ClaimJoined
import GoSem.ClaimMapViews
import Derived.JoinedTies
import Derived.KernelRfl
namespace Go.Proofs.Ytodoeckikkeacaa
/- THE CELL 'sum', in the pinned program and in every row, IS THE sha256 OF THE DUMP (.gsa) THAT YtodoeckikkeacaaProg.lean LOADS. Nothing in Lean hashes anything: it is a label: what it is worth is what the hold of that sum in a sandbox is worth. -/
noncomputable def Try.pinned : Pinned := { name := "ytodoeckikkeacaa", sum := "ba13027018e7c2573bdccbefff963059b6600df1527c7a2284551a2763c0163c", checked := Try.checked }
namespace Rows
def none {H : Type} : Left H := { results := [], args := [] }

/-- 'beltwaylaw02.ArenaRanges': WHATEVER THE INPUT: true; the input reads as it did. -/
def arenaRangesSpec : ChangeSpec := { name := "arenaRanges", fn := fun _ => fun
  | [d1, d2, d3, d4, d5] => { results := [.lit (.bool true)], args := [d1, d2, d3, d4, d5] }
  | _ => none }
def arenaRangesRow : OpenClaim := { program := "ytodoeckikkeacaa", sum := "ba13027018e7c2573bdccbefff963059b6600df1527c7a2284551a2763c0163c", func := "beltway/beltwaylaw02.ArenaRanges", spec := "arenaRanges", apart := false }
def ArenaRangesSaid : Prop := arenaRangesRow.holds Try.pinned (OpenSpec.ofChange arenaRangesSpec)

/-- ITS FALSE NEIGHBOUR: 'it returns false'. Refute it at one input. -/
def arenaRangesWrong : ChangeSpec := { name := "arenaRanges", fn := fun _ => fun
  | [d1, d2, d3, d4, d5] => { results := [.lit (.bool false)], args := [d1, d2, d3, d4, d5] }
  | _ => none }
def ArenaRangesWrongFalsely : Prop := arenaRangesRow.holds Try.pinned (OpenSpec.ofChange arenaRangesWrong)

/-- 'beltwaylaw02.ArenaKeeps': WHATEVER THE INPUT: true; the input reads as it did. -/
def arenaKeepsSpec : ChangeSpec := { name := "arenaKeeps", fn := fun _ => fun
  | [d1, d2, d3, d4, d5, d6] => { results := [.lit (.bool true)], args := [d1, d2, d3, d4, d5, d6] }
  | _ => none }
def arenaKeepsRow : OpenClaim := { program := "ytodoeckikkeacaa", sum := "ba13027018e7c2573bdccbefff963059b6600df1527c7a2284551a2763c0163c", func := "beltway/beltwaylaw02.ArenaKeeps", spec := "arenaKeeps", apart := false }
def ArenaKeepsSaid : Prop := arenaKeepsRow.holds Try.pinned (OpenSpec.ofChange arenaKeepsSpec)

/-- ITS FALSE NEIGHBOUR: 'it returns false'. Refute it at one input. -/
def arenaKeepsWrong : ChangeSpec := { name := "arenaKeeps", fn := fun _ => fun
  | [d1, d2, d3, d4, d5, d6] => { results := [.lit (.bool false)], args := [d1, d2, d3, d4, d5, d6] }
  | _ => none }
def ArenaKeepsWrongFalsely : Prop := arenaKeepsRow.holds Try.pinned (OpenSpec.ofChange arenaKeepsWrong)

/-- 'beltwaylaw02.ArenaWords': WHATEVER THE INPUT: true; the input reads as it did. -/
def arenaWordsSpec : ChangeSpec := { name := "arenaWords", fn := fun _ => fun
  | [d1, d2, d3, d4] => { results := [.lit (.bool true)], args := [d1, d2, d3, d4] }
  | _ => none }
def arenaWordsRow : OpenClaim := { program := "ytodoeckikkeacaa", sum := "ba13027018e7c2573bdccbefff963059b6600df1527c7a2284551a2763c0163c", func := "beltway/beltwaylaw02.ArenaWords", spec := "arenaWords", apart := false }
def ArenaWordsSaid : Prop := arenaWordsRow.holds Try.pinned (OpenSpec.ofChange arenaWordsSpec)

/-- ITS FALSE NEIGHBOUR: 'it returns false'. Refute it at one input. -/
def arenaWordsWrong : ChangeSpec := { name := "arenaWords", fn := fun _ => fun
  | [d1, d2, d3, d4] => { results := [.lit (.bool false)], args := [d1, d2, d3, d4] }
  | _ => none }
def ArenaWordsWrongFalsely : Prop := arenaWordsRow.holds Try.pinned (OpenSpec.ofChange arenaWordsWrong)

/-- 'beltwaylaw02.ArenaFresh': WHATEVER THE INPUT: true; the input reads as it did. -/
def arenaFreshSpec : ChangeSpec := { name := "arenaFresh", fn := fun _ => fun
  | [d1, d2, d3] => { results := [.lit (.bool true)], args := [d1, d2, d3] }
  | _ => none }
def arenaFreshRow : OpenClaim := { program := "ytodoeckikkeacaa", sum := "ba13027018e7c2573bdccbefff963059b6600df1527c7a2284551a2763c0163c", func := "beltway/beltwaylaw02.ArenaFresh", spec := "arenaFresh", apart := false }
def ArenaFreshSaid : Prop := arenaFreshRow.holds Try.pinned (OpenSpec.ofChange arenaFreshSpec)

/-- ITS FALSE NEIGHBOUR: 'it returns false'. Refute it at one input. -/
def arenaFreshWrong : ChangeSpec := { name := "arenaFresh", fn := fun _ => fun
  | [d1, d2, d3] => { results := [.lit (.bool false)], args := [d1, d2, d3] }
  | _ => none }
def ArenaFreshWrongFalsely : Prop := arenaFreshRow.holds Try.pinned (OpenSpec.ofChange arenaFreshWrong)

/- THE SECOND FORM. 'bulk': how many values and letters a reading holds, each counted each time it is reached (what is shared counts as often as it is met; a slice's spare places count too). A statement '..UptoSaid' is the law's where the arguments, and the package variables that the reading takes, are together of bulk at most 1048576: NARROWER than '..Said'. Prove '..Said' where nothing that the law and all that it calls make is longer than what came in: it says more and counts as full. Else prove '..UptoSaid'. A law counts once. -/
mutual
def uptoBulk {H : Type} : DataW H → Nat
  | .lit (.string bytes) => bytes.length + 1
  | .lit _ => 1
  | .nil => 1
  | .ptr d => uptoBulk d + 1
  | .slice elems spare => uptoBulkAll elems + uptoBulkAll spare + 1
  | .agg parts => uptoBulkAll parts + 1
  | .iface _ d => uptoBulk d + 1
  | .map entries => uptoBulkEntries entries + 1
  | .held _ => 1
def uptoBulkAll {H : Type} : List (DataW H) → Nat
  | [] => 0
  | d :: r => uptoBulk d + uptoBulkAll r
def uptoBulkEntries {H : Type} : List (Lit × DataW H) → Nat
  | [] => 0
  | x :: r => uptoBulkEntry x + uptoBulkEntries r
def uptoBulkEntry {H : Type} : Lit × DataW H → Nat
  | (.string bytes, d) => bytes.length + uptoBulk d + 1
  | (_, d) => uptoBulk d + 1
 end
def uptoSmall : (H : Type) → List (DataW H) → Bool := fun _ ds => decide (uptoBulkAll ds ≤ 1048576)
def OpenSpec.upto (s : _root_.Go.ChangeSpec) : _root_.Go.OpenSpec := { _root_.Go.OpenSpec.ofChange s with cond := some uptoSmall }

/-- 'beltwaylaw02.ArenaRanges', WHERE WHAT IT READS IS OF BULK AT MOST 1048576: true; the input reads as it did. -/
def arenaRangesUptoRow : OpenClaim := { program := "ytodoeckikkeacaa", sum := "ba13027018e7c2573bdccbefff963059b6600df1527c7a2284551a2763c0163c", func := "beltway/beltwaylaw02.ArenaRanges", spec := "arenaRanges", apart := false, narrowed := true }
def ArenaRangesUptoSaid : Prop := arenaRangesUptoRow.holds Try.pinned (OpenSpec.upto arenaRangesSpec)

/-- 'beltwaylaw02.ArenaKeeps', WHERE WHAT IT READS IS OF BULK AT MOST 1048576: true; the input reads as it did. -/
def arenaKeepsUptoRow : OpenClaim := { program := "ytodoeckikkeacaa", sum := "ba13027018e7c2573bdccbefff963059b6600df1527c7a2284551a2763c0163c", func := "beltway/beltwaylaw02.ArenaKeeps", spec := "arenaKeeps", apart := false, narrowed := true }
def ArenaKeepsUptoSaid : Prop := arenaKeepsUptoRow.holds Try.pinned (OpenSpec.upto arenaKeepsSpec)

/-- 'beltwaylaw02.ArenaWords', WHERE WHAT IT READS IS OF BULK AT MOST 1048576: true; the input reads as it did. -/
def arenaWordsUptoRow : OpenClaim := { program := "ytodoeckikkeacaa", sum := "ba13027018e7c2573bdccbefff963059b6600df1527c7a2284551a2763c0163c", func := "beltway/beltwaylaw02.ArenaWords", spec := "arenaWords", apart := false, narrowed := true }
def ArenaWordsUptoSaid : Prop := arenaWordsUptoRow.holds Try.pinned (OpenSpec.upto arenaWordsSpec)

/-- 'beltwaylaw02.ArenaFresh', WHERE WHAT IT READS IS OF BULK AT MOST 1048576: true; the input reads as it did. -/
def arenaFreshUptoRow : OpenClaim := { program := "ytodoeckikkeacaa", sum := "ba13027018e7c2573bdccbefff963059b6600df1527c7a2284551a2763c0163c", func := "beltway/beltwaylaw02.ArenaFresh", spec := "arenaFresh", apart := false, narrowed := true }
def ArenaFreshUptoSaid : Prop := arenaFreshUptoRow.holds Try.pinned (OpenSpec.upto arenaFreshSpec)

end Rows
end Go.Proofs.Ytodoeckikkeacaa
