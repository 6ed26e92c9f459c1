/-
  No cell of these rows narrows 'for every input' (looked for: loops, veiled, ifaces, maps, wideKeys, modest, calm, conditions, laid).
  DERIVED. THE GIVEN ROWS OF THIS SEAT. 4 by the template 'for every input the law returns true; each argument reads behind the call as it read before'; 0 by the template 'total and deterministic' (their statements: YtljkadpconghnaaTotals.lean).
  GIVEN WITH THE SEED: the statements are not yours to turn. If you find one false, say at which input.
  Laid BY PROGRAM, IN A SANDBOX (cutbox-rows.mjs): the forced cells as the released guide's own fill.sh prints them over the translation 9520f64b69734cdc… (all of the seat's roots in one cut). By AI agents, Wed Nov 11 2026. No macro, syntax, notation, axiom, sorry.
-/
import Derived.Test.YtljkadpconghnaaChecked
import GoSem.Claim
import GoSem.ClaimJoined
import GoSem.ClaimMapViews
import Derived.JoinedTies
import Derived.KernelRfl
namespace Go.Proofs.Ytljkadpconghnaa
/- THE CELL 'sum', in the pinned program and in every row, IS THE sha256 OF THE DUMP (.gsa) THAT YtljkadpconghnaaProg.lean LOADS. Nothing in Lean hashes anything: it is a label: what it is worth is what the hold of that sum in a sandbox is worth. -/
noncomputable def Try.pinned : Pinned := { name := "ytljkadpconghnaa", sum := "9520f64b69734cdcd1d049afbf7090d5e0d4c414223d0b47926669cfbfb1ff39", checked := Try.checked }
namespace Rows
def none {H : Type} : Left H := { results := [], args := [] }

/-- 'beltwaylaw15.OrderStamps': WHATEVER THE INPUT: true; the input reads as it did. -/
def orderStampsSpec : ChangeSpec := { name := "orderStamps", fn := fun _ => fun
  | [d1, d2, d3, d4] => { results := [.lit (.bool true)], args := [d1, d2, d3, d4] }
  | _ => none }
def orderStampsRow : OpenClaim := { program := "ytljkadpconghnaa", sum := "9520f64b69734cdcd1d049afbf7090d5e0d4c414223d0b47926669cfbfb1ff39", func := "beltway/beltwaylaw15.OrderStamps", spec := "orderStamps", apart := false }
def OrderStampsSaid : Prop := orderStampsRow.holds Try.pinned (OpenSpec.ofChange orderStampsSpec)

/-- ITS FALSE NEIGHBOUR: 'it returns false'. Refute it at one input. -/
def orderStampsWrong : ChangeSpec := { name := "orderStamps", fn := fun _ => fun
  | [d1, d2, d3, d4] => { results := [.lit (.bool false)], args := [d1, d2, d3, d4] }
  | _ => none }
def OrderStampsWrongFalsely : Prop := orderStampsRow.holds Try.pinned (OpenSpec.ofChange orderStampsWrong)

/-- 'beltwaylaw15.OrderAscends': WHATEVER THE INPUT: true; the input reads as it did. -/
def orderAscendsSpec : ChangeSpec := { name := "orderAscends", fn := fun _ => fun
  | [d1, d2] => { results := [.lit (.bool true)], args := [d1, d2] }
  | _ => none }
def orderAscendsRow : OpenClaim := { program := "ytljkadpconghnaa", sum := "9520f64b69734cdcd1d049afbf7090d5e0d4c414223d0b47926669cfbfb1ff39", func := "beltway/beltwaylaw15.OrderAscends", spec := "orderAscends", unfollowed := true, recurses := true, apart := false }
def OrderAscendsSaid : Prop := orderAscendsRow.holds Try.pinned (OpenSpec.ofChange orderAscendsSpec)

/-- ITS FALSE NEIGHBOUR: 'it returns false'. Refute it at one input. -/
def orderAscendsWrong : ChangeSpec := { name := "orderAscends", fn := fun _ => fun
  | [d1, d2] => { results := [.lit (.bool false)], args := [d1, d2] }
  | _ => none }
def OrderAscendsWrongFalsely : Prop := orderAscendsRow.holds Try.pinned (OpenSpec.ofChange orderAscendsWrong)

/-- 'beltwaylaw15.OrderLists': WHATEVER THE INPUT: true; the input reads as it did. -/
def orderListsSpec : ChangeSpec := { name := "orderLists", fn := fun _ => fun
  | [d1, d2, d3, d4, d5] => { results := [.lit (.bool true)], args := [d1, d2, d3, d4, d5] }
  | _ => none }
def orderListsRow : OpenClaim := { program := "ytljkadpconghnaa", sum := "9520f64b69734cdcd1d049afbf7090d5e0d4c414223d0b47926669cfbfb1ff39", func := "beltway/beltwaylaw15.OrderLists", spec := "orderLists", unfollowed := true, recurses := true, apart := false }
def OrderListsSaid : Prop := orderListsRow.holds Try.pinned (OpenSpec.ofChange orderListsSpec)

/-- ITS FALSE NEIGHBOUR: 'it returns false'. Refute it at one input. -/
def orderListsWrong : ChangeSpec := { name := "orderLists", fn := fun _ => fun
  | [d1, d2, d3, d4, d5] => { results := [.lit (.bool false)], args := [d1, d2, d3, d4, d5] }
  | _ => none }
def OrderListsWrongFalsely : Prop := orderListsRow.holds Try.pinned (OpenSpec.ofChange orderListsWrong)

/-- 'beltwaylaw15.OrderFirst': WHATEVER THE INPUT: true; the input reads as it did. -/
def orderFirstSpec : ChangeSpec := { name := "orderFirst", fn := fun _ => fun
  | [d] => { results := [.lit (.bool true)], args := [d] }
  | _ => none }
def orderFirstRow : OpenClaim := { program := "ytljkadpconghnaa", sum := "9520f64b69734cdcd1d049afbf7090d5e0d4c414223d0b47926669cfbfb1ff39", func := "beltway/beltwaylaw15.OrderFirst", spec := "orderFirst", unfollowed := true, recurses := true, apart := false }
def OrderFirstSaid : Prop := orderFirstRow.holds Try.pinned (OpenSpec.ofChange orderFirstSpec)

/-- ITS FALSE NEIGHBOUR: 'it returns false'. Refute it at one input. -/
def orderFirstWrong : ChangeSpec := { name := "orderFirst", fn := fun _ => fun
  | [d] => { results := [.lit (.bool false)], args := [d] }
  | _ => none }
def OrderFirstWrongFalsely : Prop := orderFirstRow.holds Try.pinned (OpenSpec.ofChange orderFirstWrong)

/- THE SECOND FORM. 'bulk': how many values and letters a reading holds, each counted each time it is reached (what is shared counts as often as it is met; a slice's spare places count too). A statement '..UptoSaid' is the law's where the arguments, and the package variables that the reading takes, are together of bulk at most 1048576: NARROWER than '..Said'. Prove '..Said' where nothing that the law and all that it calls make is longer than what came in: it says more and counts as full. Else prove '..UptoSaid'. A law counts once. -/
mutual
def uptoBulk {H : Type} : DataW H → Nat
  | .lit (.string bytes) => bytes.length + 1
  | .lit _ => 1
  | .nil => 1
  | .ptr d => uptoBulk d + 1
  | .slice elems spare => uptoBulkAll elems + uptoBulkAll spare + 1
  | .agg parts => uptoBulkAll parts + 1
  | .iface _ d => uptoBulk d + 1
  | .map entries => uptoBulkEntries entries + 1
  | .held _ => 1
def uptoBulkAll {H : Type} : List (DataW H) → Nat
  | [] => 0
  | d :: r => uptoBulk d + uptoBulkAll r
def uptoBulkEntries {H : Type} : List (Lit × DataW H) → Nat
  | [] => 0
  | x :: r => uptoBulkEntry x + uptoBulkEntries r
def uptoBulkEntry {H : Type} : Lit × DataW H → Nat
  | (.string bytes, d) => bytes.length + uptoBulk d + 1
  | (_, d) => uptoBulk d + 1
 end
def uptoSmall : (H : Type) → List (DataW H) → Bool := fun _ ds => decide (uptoBulkAll ds ≤ 1048576)
def OpenSpec.upto (s : _root_.Go.ChangeSpec) : _root_.Go.OpenSpec := { _root_.Go.OpenSpec.ofChange s with cond := some uptoSmall }

/-- 'beltwaylaw15.OrderStamps', WHERE WHAT IT READS IS OF BULK AT MOST 1048576: true; the input reads as it did. -/
def orderStampsUptoRow : OpenClaim := { program := "ytljkadpconghnaa", sum := "9520f64b69734cdcd1d049afbf7090d5e0d4c414223d0b47926669cfbfb1ff39", func := "beltway/beltwaylaw15.OrderStamps", spec := "orderStamps", apart := false, narrowed := true }
def OrderStampsUptoSaid : Prop := orderStampsUptoRow.holds Try.pinned (OpenSpec.upto orderStampsSpec)

/-- 'beltwaylaw15.OrderAscends', WHERE WHAT IT READS IS OF BULK AT MOST 1048576: true; the input reads as it did. -/
def orderAscendsUptoRow : OpenClaim := { program := "ytljkadpconghnaa", sum := "9520f64b69734cdcd1d049afbf7090d5e0d4c414223d0b47926669cfbfb1ff39", func := "beltway/beltwaylaw15.OrderAscends", spec := "orderAscends", unfollowed := true, recurses := true, apart := false, narrowed := true }
def OrderAscendsUptoSaid : Prop := orderAscendsUptoRow.holds Try.pinned (OpenSpec.upto orderAscendsSpec)

/-- 'beltwaylaw15.OrderLists', WHERE WHAT IT READS IS OF BULK AT MOST 1048576: true; the input reads as it did. -/
def orderListsUptoRow : OpenClaim := { program := "ytljkadpconghnaa", sum := "9520f64b69734cdcd1d049afbf7090d5e0d4c414223d0b47926669cfbfb1ff39", func := "beltway/beltwaylaw15.OrderLists", spec := "orderLists", unfollowed := true, recurses := true, apart := false, narrowed := true }
def OrderListsUptoSaid : Prop := orderListsUptoRow.holds Try.pinned (OpenSpec.upto orderListsSpec)

/-- 'beltwaylaw15.OrderFirst', WHERE WHAT IT READS IS OF BULK AT MOST 1048576: true; the input reads as it did. -/
def orderFirstUptoRow : OpenClaim := { program := "ytljkadpconghnaa", sum := "9520f64b69734cdcd1d049afbf7090d5e0d4c414223d0b47926669cfbfb1ff39", func := "beltway/beltwaylaw15.OrderFirst", spec := "orderFirst", unfollowed := true, recurses := true, apart := false, narrowed := true }
def OrderFirstUptoSaid : Prop := orderFirstUptoRow.holds Try.pinned (OpenSpec.upto orderFirstSpec)

end Rows
end Go.Proofs.Ytljkadpconghnaa
