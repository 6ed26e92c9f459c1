/-
  No cell of these rows narrows 'for every input' (looked for: loops, veiled, ifaces, maps, wideKeys, modest, calm, conditions, laid).
  DERIVED. THE GIVEN ROWS OF THIS SEAT. 3 by the template 'for every input the law returns true; each argument reads behind the call as it read before'; 0 by the template 'total and deterministic' (their statements: YtkioemeohofpcaaTotals.lean).
  GIVEN WITH THE SEED: the statements are not yours to turn. If you find one false, say at which input.
  Laid BY PROGRAM, IN A SANDBOX (cutbox-rows.mjs): the forced cells as the released guide's own fill.sh prints them over the translation 7fdac21affd574d5… (all of the seat's roots in one cut). By AI agents, Wed Nov 11 2026. No macro, syntax, notation, axiom, sorry.
-/
import Derived.Test.YtkioemeohofpcaaChecked
import GoSem.Claim
import GoSem.ClaimJoined
import GoSem.ClaimMapViews
import Derived.JoinedTies
import Derived.KernelRfl
namespace Go.Proofs.Ytkioemeohofpcaa
/- THE CELL 'sum', in the pinned program and in every row, IS THE sha256 OF THE DUMP (.gsa) THAT YtkioemeohofpcaaProg.lean LOADS. Nothing in Lean hashes anything: it is a label: what it is worth is what the hold of that sum in a sandbox is worth. -/
noncomputable def Try.pinned : Pinned := { name := "ytkioemeohofpcaa", sum := "7fdac21affd574d50497319103bc10b8d4e79251063ce0af41f4c1696d6095c8", checked := Try.checked }
namespace Rows
def none {H : Type} : Left H := { results := [], args := [] }

/-- 'beltwaylaw14.PresetGets': WHATEVER THE INPUT: true; the input reads as it did. -/
def presetGetsSpec : ChangeSpec := { name := "presetGets", fn := fun _ => fun
  | [d1, d2, d3] => { results := [.lit (.bool true)], args := [d1, d2, d3] }
  | _ => none }
def presetGetsRow : OpenClaim := { program := "ytkioemeohofpcaa", sum := "7fdac21affd574d50497319103bc10b8d4e79251063ce0af41f4c1696d6095c8", func := "beltway/beltwaylaw14.PresetGets", spec := "presetGets", inPlace := ["math.Float64bits"], unfollowed := true, recurses := true, apart := false }
def PresetGetsSaid : Prop := presetGetsRow.holds Try.pinned (OpenSpec.ofChange presetGetsSpec)

/-- ITS FALSE NEIGHBOUR: 'it returns false'. Refute it at one input. -/
def presetGetsWrong : ChangeSpec := { name := "presetGets", fn := fun _ => fun
  | [d1, d2, d3] => { results := [.lit (.bool false)], args := [d1, d2, d3] }
  | _ => none }
def PresetGetsWrongFalsely : Prop := presetGetsRow.holds Try.pinned (OpenSpec.ofChange presetGetsWrong)

/-- 'beltwaylaw14.PresetValid': WHATEVER THE INPUT: true; the input reads as it did. -/
def presetValidSpec : ChangeSpec := { name := "presetValid", fn := fun _ => fun
  | [d] => { results := [.lit (.bool true)], args := [d] }
  | _ => none }
def presetValidRow : OpenClaim := { program := "ytkioemeohofpcaa", sum := "7fdac21affd574d50497319103bc10b8d4e79251063ce0af41f4c1696d6095c8", func := "beltway/beltwaylaw14.PresetValid", spec := "presetValid", inPlace := ["math.Float64bits"], unfollowed := true, recurses := true, apart := false }
def PresetValidSaid : Prop := presetValidRow.holds Try.pinned (OpenSpec.ofChange presetValidSpec)

/-- ITS FALSE NEIGHBOUR: 'it returns false'. Refute it at one input. -/
def presetValidWrong : ChangeSpec := { name := "presetValid", fn := fun _ => fun
  | [d] => { results := [.lit (.bool false)], args := [d] }
  | _ => none }
def PresetValidWrongFalsely : Prop := presetValidRow.holds Try.pinned (OpenSpec.ofChange presetValidWrong)

/-- 'beltwaylaw14.PresetRelated': WHATEVER THE INPUT: true; the input reads as it did. -/
def presetRelatedSpec : ChangeSpec := { name := "presetRelated", fn := fun _ => fun
  | [d1, d2] => { results := [.lit (.bool true)], args := [d1, d2] }
  | _ => none }
def presetRelatedRow : OpenClaim := { program := "ytkioemeohofpcaa", sum := "7fdac21affd574d50497319103bc10b8d4e79251063ce0af41f4c1696d6095c8", func := "beltway/beltwaylaw14.PresetRelated", spec := "presetRelated", inPlace := ["math.Float64bits"], unfollowed := true, recurses := true, apart := false }
def PresetRelatedSaid : Prop := presetRelatedRow.holds Try.pinned (OpenSpec.ofChange presetRelatedSpec)

/-- ITS FALSE NEIGHBOUR: 'it returns false'. Refute it at one input. -/
def presetRelatedWrong : ChangeSpec := { name := "presetRelated", fn := fun _ => fun
  | [d1, d2] => { results := [.lit (.bool false)], args := [d1, d2] }
  | _ => none }
def PresetRelatedWrongFalsely : Prop := presetRelatedRow.holds Try.pinned (OpenSpec.ofChange presetRelatedWrong)

/- THE SECOND FORM. 'bulk': how many values and letters a reading holds, each counted each time it is reached (what is shared counts as often as it is met; a slice's spare places count too). A statement '..UptoSaid' is the law's where the arguments, and the package variables that the reading takes, are together of bulk at most 1048576: NARROWER than '..Said'. Prove '..Said' where nothing that the law and all that it calls make is longer than what came in: it says more and counts as full. Else prove '..UptoSaid'. A law counts once. -/
mutual
def uptoBulk {H : Type} : DataW H → Nat
  | .lit (.string bytes) => bytes.length + 1
  | .lit _ => 1
  | .nil => 1
  | .ptr d => uptoBulk d + 1
  | .slice elems spare => uptoBulkAll elems + uptoBulkAll spare + 1
  | .agg parts => uptoBulkAll parts + 1
  | .iface _ d => uptoBulk d + 1
  | .map entries => uptoBulkEntries entries + 1
  | .held _ => 1
def uptoBulkAll {H : Type} : List (DataW H) → Nat
  | [] => 0
  | d :: r => uptoBulk d + uptoBulkAll r
def uptoBulkEntries {H : Type} : List (Lit × DataW H) → Nat
  | [] => 0
  | x :: r => uptoBulkEntry x + uptoBulkEntries r
def uptoBulkEntry {H : Type} : Lit × DataW H → Nat
  | (.string bytes, d) => bytes.length + uptoBulk d + 1
  | (_, d) => uptoBulk d + 1
 end
def uptoSmall : (H : Type) → List (DataW H) → Bool := fun _ ds => decide (uptoBulkAll ds ≤ 1048576)
def OpenSpec.upto (s : _root_.Go.ChangeSpec) : _root_.Go.OpenSpec := { _root_.Go.OpenSpec.ofChange s with cond := some uptoSmall }

/-- 'beltwaylaw14.PresetGets', WHERE WHAT IT READS IS OF BULK AT MOST 1048576: true; the input reads as it did. -/
def presetGetsUptoRow : OpenClaim := { program := "ytkioemeohofpcaa", sum := "7fdac21affd574d50497319103bc10b8d4e79251063ce0af41f4c1696d6095c8", func := "beltway/beltwaylaw14.PresetGets", spec := "presetGets", inPlace := ["math.Float64bits"], unfollowed := true, recurses := true, apart := false, narrowed := true }
def PresetGetsUptoSaid : Prop := presetGetsUptoRow.holds Try.pinned (OpenSpec.upto presetGetsSpec)

/-- 'beltwaylaw14.PresetValid', WHERE WHAT IT READS IS OF BULK AT MOST 1048576: true; the input reads as it did. -/
def presetValidUptoRow : OpenClaim := { program := "ytkioemeohofpcaa", sum := "7fdac21affd574d50497319103bc10b8d4e79251063ce0af41f4c1696d6095c8", func := "beltway/beltwaylaw14.PresetValid", spec := "presetValid", inPlace := ["math.Float64bits"], unfollowed := true, recurses := true, apart := false, narrowed := true }
def PresetValidUptoSaid : Prop := presetValidUptoRow.holds Try.pinned (OpenSpec.upto presetValidSpec)

/-- 'beltwaylaw14.PresetRelated', WHERE WHAT IT READS IS OF BULK AT MOST 1048576: true; the input reads as it did. -/
def presetRelatedUptoRow : OpenClaim := { program := "ytkioemeohofpcaa", sum := "7fdac21affd574d50497319103bc10b8d4e79251063ce0af41f4c1696d6095c8", func := "beltway/beltwaylaw14.PresetRelated", spec := "presetRelated", inPlace := ["math.Float64bits"], unfollowed := true, recurses := true, apart := false, narrowed := true }
def PresetRelatedUptoSaid : Prop := presetRelatedUptoRow.holds Try.pinned (OpenSpec.upto presetRelatedSpec)

end Rows
end Go.Proofs.Ytkioemeohofpcaa
