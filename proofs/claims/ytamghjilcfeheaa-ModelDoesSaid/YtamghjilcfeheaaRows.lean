/-
  No cell of these rows narrows 'for every input' (looked for: loops, veiled, ifaces, maps, wideKeys, modest, calm, conditions, laid).
  DERIVED. THE GIVEN ROWS OF THIS SEAT. 5 by the template 'for every input the law returns true; each argument reads behind the call as it read before'; 0 by the template 'total and deterministic' (their statements: YtamghjilcfeheaaTotals.lean).
  GIVEN WITH THE SEED: the statements are not yours to turn. If you find one false, say at which input.
  Laid BY PROGRAM, IN A SANDBOX (cutbox-rows.mjs): the forced cells as the released guide's own fill.sh prints them over the translation 2f6b732361993113… (all of the seat's roots in one cut). By AI agents, Wed Nov 11 2026. No macro, syntax, notation, axiom, sorry.
-/
import Derived.Test.YtamghjilcfeheaaChecked
import GoSem.Claim
import GoSem.ClaimJoined
import GoSem.ClaimMapViews
import Derived.JoinedTies
import Derived.KernelRfl
namespace Go.Proofs.Ytamghjilcfeheaa
/- THE CELL 'sum', in the pinned program and in every row, IS THE sha256 OF THE DUMP (.gsa) THAT YtamghjilcfeheaaProg.lean LOADS. Nothing in Lean hashes anything: it is a label: what it is worth is what the hold of that sum in a sandbox is worth. -/
noncomputable def Try.pinned : Pinned := { name := "ytamghjilcfeheaa", sum := "2f6b7323619931132433fb3ae04054dfac118578b10c529d39c6fa73e67bd55d", checked := Try.checked }
namespace Rows
def none {H : Type} : Left H := { results := [], args := [] }

/-- 'beltwaylaw29.ModelHandles': WHATEVER THE INPUT: true; the input reads as it did. -/
def modelHandlesSpec : ChangeSpec := { name := "modelHandles", fn := fun _ => fun
  | [d1, d2] => { results := [.lit (.bool true)], args := [d1, d2] }
  | _ => none }
def modelHandlesRow : OpenClaim := { program := "ytamghjilcfeheaa", sum := "2f6b7323619931132433fb3ae04054dfac118578b10c529d39c6fa73e67bd55d", func := "beltway/beltwaylaw29.ModelHandles", spec := "modelHandles", unfollowed := true, recurses := true, apart := false }
def ModelHandlesSaid : Prop := modelHandlesRow.holds Try.pinned (OpenSpec.ofChange modelHandlesSpec)

/-- ITS FALSE NEIGHBOUR: 'it returns false'. Refute it at one input. -/
def modelHandlesWrong : ChangeSpec := { name := "modelHandles", fn := fun _ => fun
  | [d1, d2] => { results := [.lit (.bool false)], args := [d1, d2] }
  | _ => none }
def ModelHandlesWrongFalsely : Prop := modelHandlesRow.holds Try.pinned (OpenSpec.ofChange modelHandlesWrong)

/-- 'beltwaylaw29.ModelReach': WHATEVER THE INPUT: true; the input reads as it did. -/
def modelReachSpec : ChangeSpec := { name := "modelReach", fn := fun _ => fun
  | [d1, d2] => { results := [.lit (.bool true)], args := [d1, d2] }
  | _ => none }
def modelReachRow : OpenClaim := { program := "ytamghjilcfeheaa", sum := "2f6b7323619931132433fb3ae04054dfac118578b10c529d39c6fa73e67bd55d", func := "beltway/beltwaylaw29.ModelReach", spec := "modelReach", unfollowed := true, recurses := true, apart := false }
def ModelReachSaid : Prop := modelReachRow.holds Try.pinned (OpenSpec.ofChange modelReachSpec)

/-- ITS FALSE NEIGHBOUR: 'it returns false'. Refute it at one input. -/
def modelReachWrong : ChangeSpec := { name := "modelReach", fn := fun _ => fun
  | [d1, d2] => { results := [.lit (.bool false)], args := [d1, d2] }
  | _ => none }
def ModelReachWrongFalsely : Prop := modelReachRow.holds Try.pinned (OpenSpec.ofChange modelReachWrong)

/-- 'beltwaylaw29.ModelCloses': WHATEVER THE INPUT: true; the input reads as it did. -/
def modelClosesSpec : ChangeSpec := { name := "modelCloses", fn := fun _ => fun
  | [d1, d2] => { results := [.lit (.bool true)], args := [d1, d2] }
  | _ => none }
def modelClosesRow : OpenClaim := { program := "ytamghjilcfeheaa", sum := "2f6b7323619931132433fb3ae04054dfac118578b10c529d39c6fa73e67bd55d", func := "beltway/beltwaylaw29.ModelCloses", spec := "modelCloses", unfollowed := true, recurses := true, apart := false }
def ModelClosesSaid : Prop := modelClosesRow.holds Try.pinned (OpenSpec.ofChange modelClosesSpec)

/-- ITS FALSE NEIGHBOUR: 'it returns false'. Refute it at one input. -/
def modelClosesWrong : ChangeSpec := { name := "modelCloses", fn := fun _ => fun
  | [d1, d2] => { results := [.lit (.bool false)], args := [d1, d2] }
  | _ => none }
def ModelClosesWrongFalsely : Prop := modelClosesRow.holds Try.pinned (OpenSpec.ofChange modelClosesWrong)

/-- 'beltwaylaw29.ModelKeeps': WHATEVER THE INPUT: true; the input reads as it did. -/
def modelKeepsSpec : ChangeSpec := { name := "modelKeeps", fn := fun _ => fun
  | [d1, d2] => { results := [.lit (.bool true)], args := [d1, d2] }
  | _ => none }
def modelKeepsRow : OpenClaim := { program := "ytamghjilcfeheaa", sum := "2f6b7323619931132433fb3ae04054dfac118578b10c529d39c6fa73e67bd55d", func := "beltway/beltwaylaw29.ModelKeeps", spec := "modelKeeps", unfollowed := true, recurses := true, apart := false }
def ModelKeepsSaid : Prop := modelKeepsRow.holds Try.pinned (OpenSpec.ofChange modelKeepsSpec)

/-- ITS FALSE NEIGHBOUR: 'it returns false'. Refute it at one input. -/
def modelKeepsWrong : ChangeSpec := { name := "modelKeeps", fn := fun _ => fun
  | [d1, d2] => { results := [.lit (.bool false)], args := [d1, d2] }
  | _ => none }
def ModelKeepsWrongFalsely : Prop := modelKeepsRow.holds Try.pinned (OpenSpec.ofChange modelKeepsWrong)

/-- 'beltwaylaw29.ModelDoes': WHATEVER THE INPUT: true; the input reads as it did. -/
def modelDoesSpec : ChangeSpec := { name := "modelDoes", fn := fun _ => fun
  | [d1, d2, d3, d4, d5, d6] => { results := [.lit (.bool true)], args := [d1, d2, d3, d4, d5, d6] }
  | _ => none }
def modelDoesRow : OpenClaim := { program := "ytamghjilcfeheaa", sum := "2f6b7323619931132433fb3ae04054dfac118578b10c529d39c6fa73e67bd55d", func := "beltway/beltwaylaw29.ModelDoes", spec := "modelDoes", unfollowed := true, recurses := true, apart := false }
def ModelDoesSaid : Prop := modelDoesRow.holds Try.pinned (OpenSpec.ofChange modelDoesSpec)

/-- ITS FALSE NEIGHBOUR: 'it returns false'. Refute it at one input. -/
def modelDoesWrong : ChangeSpec := { name := "modelDoes", fn := fun _ => fun
  | [d1, d2, d3, d4, d5, d6] => { results := [.lit (.bool false)], args := [d1, d2, d3, d4, d5, d6] }
  | _ => none }
def ModelDoesWrongFalsely : Prop := modelDoesRow.holds Try.pinned (OpenSpec.ofChange modelDoesWrong)

/- THE SECOND FORM. 'bulk': how many values and letters a reading holds, each counted each time it is reached (what is shared counts as often as it is met; a slice's spare places count too). A statement '..UptoSaid' is the law's where the arguments, and the package variables that the reading takes, are together of bulk at most 1048576: NARROWER than '..Said'. Prove '..Said' where nothing that the law and all that it calls make is longer than what came in: it says more and counts as full. Else prove '..UptoSaid'. A law counts once. -/
mutual
def uptoBulk {H : Type} : DataW H → Nat
  | .lit (.string bytes) => bytes.length + 1
  | .lit _ => 1
  | .nil => 1
  | .ptr d => uptoBulk d + 1
  | .slice elems spare => uptoBulkAll elems + uptoBulkAll spare + 1
  | .agg parts => uptoBulkAll parts + 1
  | .iface _ d => uptoBulk d + 1
  | .map entries => uptoBulkEntries entries + 1
  | .held _ => 1
def uptoBulkAll {H : Type} : List (DataW H) → Nat
  | [] => 0
  | d :: r => uptoBulk d + uptoBulkAll r
def uptoBulkEntries {H : Type} : List (Lit × DataW H) → Nat
  | [] => 0
  | x :: r => uptoBulkEntry x + uptoBulkEntries r
def uptoBulkEntry {H : Type} : Lit × DataW H → Nat
  | (.string bytes, d) => bytes.length + uptoBulk d + 1
  | (_, d) => uptoBulk d + 1
 end
def uptoSmall : (H : Type) → List (DataW H) → Bool := fun _ ds => decide (uptoBulkAll ds ≤ 1048576)
def OpenSpec.upto (s : _root_.Go.ChangeSpec) : _root_.Go.OpenSpec := { _root_.Go.OpenSpec.ofChange s with cond := some uptoSmall }

/-- 'beltwaylaw29.ModelHandles', WHERE WHAT IT READS IS OF BULK AT MOST 1048576: true; the input reads as it did. -/
def modelHandlesUptoRow : OpenClaim := { program := "ytamghjilcfeheaa", sum := "2f6b7323619931132433fb3ae04054dfac118578b10c529d39c6fa73e67bd55d", func := "beltway/beltwaylaw29.ModelHandles", spec := "modelHandles", unfollowed := true, recurses := true, apart := false, narrowed := true }
def ModelHandlesUptoSaid : Prop := modelHandlesUptoRow.holds Try.pinned (OpenSpec.upto modelHandlesSpec)

/-- 'beltwaylaw29.ModelReach', WHERE WHAT IT READS IS OF BULK AT MOST 1048576: true; the input reads as it did. -/
def modelReachUptoRow : OpenClaim := { program := "ytamghjilcfeheaa", sum := "2f6b7323619931132433fb3ae04054dfac118578b10c529d39c6fa73e67bd55d", func := "beltway/beltwaylaw29.ModelReach", spec := "modelReach", unfollowed := true, recurses := true, apart := false, narrowed := true }
def ModelReachUptoSaid : Prop := modelReachUptoRow.holds Try.pinned (OpenSpec.upto modelReachSpec)

/-- 'beltwaylaw29.ModelCloses', WHERE WHAT IT READS IS OF BULK AT MOST 1048576: true; the input reads as it did. -/
def modelClosesUptoRow : OpenClaim := { program := "ytamghjilcfeheaa", sum := "2f6b7323619931132433fb3ae04054dfac118578b10c529d39c6fa73e67bd55d", func := "beltway/beltwaylaw29.ModelCloses", spec := "modelCloses", unfollowed := true, recurses := true, apart := false, narrowed := true }
def ModelClosesUptoSaid : Prop := modelClosesUptoRow.holds Try.pinned (OpenSpec.upto modelClosesSpec)

/-- 'beltwaylaw29.ModelKeeps', WHERE WHAT IT READS IS OF BULK AT MOST 1048576: true; the input reads as it did. -/
def modelKeepsUptoRow : OpenClaim := { program := "ytamghjilcfeheaa", sum := "2f6b7323619931132433fb3ae04054dfac118578b10c529d39c6fa73e67bd55d", func := "beltway/beltwaylaw29.ModelKeeps", spec := "modelKeeps", unfollowed := true, recurses := true, apart := false, narrowed := true }
def ModelKeepsUptoSaid : Prop := modelKeepsUptoRow.holds Try.pinned (OpenSpec.upto modelKeepsSpec)

/-- 'beltwaylaw29.ModelDoes', WHERE WHAT IT READS IS OF BULK AT MOST 1048576: true; the input reads as it did. -/
def modelDoesUptoRow : OpenClaim := { program := "ytamghjilcfeheaa", sum := "2f6b7323619931132433fb3ae04054dfac118578b10c529d39c6fa73e67bd55d", func := "beltway/beltwaylaw29.ModelDoes", spec := "modelDoes", unfollowed := true, recurses := true, apart := false, narrowed := true }
def ModelDoesUptoSaid : Prop := modelDoesUptoRow.holds Try.pinned (OpenSpec.upto modelDoesSpec)

end Rows
end Go.Proofs.Ytamghjilcfeheaa
