/- The law OrderLists returns true for every input and leaves its arguments as they were. No condition. -/
import Derived.Test.YtljkadpconghnaaRows
import Derived.Test.YtljkadpconghnaaSpcBB
import Derived.Test.YtljkadpconghnaaRow
import Derived.Test.YtljkadpconghnaaOpen
import Derived.WalkKit
import Derived.ProofKit
import Derived.OpenShut
import Derived.SizedLaws
import Derived.Test.YtljkadpconghnaaSpcRaw
namespace Go.Proofs.Ytljkadpconghnaa.orderLists
open Go.ChangeShapes Go.WideShapes Go.ChangeAt Go.RowKit
set_option linter.unusedVariables false

theorem own : ownKnob Try.prog.godebug = none := by kernel_rfl
theorem laidOut : laidOutB Try.prog = true := by kernel_rfl
theorem readable3 : Try.prog.readableRec 3 = true ∧ 3 < Try.prog.types.size := ⟨by kernel_rfl, of_decide_eq_true (by kernel_rfl)⟩
theorem readable26 : Try.prog.readableRec 26 = true ∧ 26 < Try.prog.types.size := ⟨by kernel_rfl, of_decide_eq_true (by kernel_rfl)⟩
theorem readable31 : Try.prog.readableRec 31 = true ∧ 31 < Try.prog.types.size := ⟨by kernel_rfl, of_decide_eq_true (by kernel_rfl)⟩
theorem readable : ∀ t ∈ Try.f5.params.toList, Try.prog.readableRec t = true ∧ t < Try.prog.types.size := by
  rw [Try.params5]
  intro t ht
  simp only [List.mem_cons, List.not_mem_nil, or_false] at ht
  rcases ht with rfl | rfl | rfl | rfl | rfl
  · exact readable26
  · exact readable31
  · exact readable31
  · exact readable3
  · exact readable3

set_option maxRecDepth 100000 in
theorem lifted (os : Os) (started : os.Started) (H : Type) (enc : TypeId × Value → H) :
    ReturnsInHanded {} Try.checked os 5 .any (Rows.orderListsSpec.pre6 enc Try.prog Try.f5 Rows.orderListsRow.domain false) (Rows.orderListsSpec.post enc Try.prog Try.f5 false true false false) := by
  refine returnsInHanded_of_change_sized (C := Try.checked) own started (by kernel_rfl) Try.func5
    (ChangeSpec.witness6 (enc := enc) (C := Try.checked) false ⟨#[], #[.slice none 0 0, .slice none 0 0, .slice none 0 0, .int .i64 0, .int .i64 0], []⟩ 8 (by kernel_rfl) (by kernel_rfl) (by kernel_rfl) (by kernel_rfl)) ?_
  intro W base args ds gs before hval0 hW hcnd hwt hsz
  have hval : ∀ (j : Nat) t v, Try.f5.params[j]? = some t → args[j]? = some v → Value.okWide Try.prog W .any base t v := hval0
  have hW' := hW
  obtain ⟨p, q, hA0, hV, rfl, hfz, hnd⟩ := hW
  have hAll : DataW.TrodAll enc Try.prog W 0 (fun _ => true) true Try.f5.params.toList args.toList ds p := hA0
  have hA := hAll
  rw [Try.params5] at hA hval
  obtain ⟨v0, vs0, d0, ds0, p0, q0, hargs, rfl, rfl, h0, r0⟩ := trodAll_cons hA
  obtain ⟨v1, vs1, d1, ds1, p1, q1, rfl, rfl, rfl, h1, r1⟩ := trodAll_cons r0
  obtain ⟨v2, vs2, d2, ds2, p2, q2, rfl, rfl, rfl, h2, r2⟩ := trodAll_cons r1
  obtain ⟨v3, vs3, d3, ds3, p3, q3, rfl, rfl, rfl, h3, r3⟩ := trodAll_cons r2
  obtain ⟨v4, vs4, d4, ds4, p4, q4, rfl, rfl, rfl, h4, r4⟩ := trodAll_cons r3
  obtain ⟨rfl, rfl, rfl⟩ := trodAll_nil r4
  obtain rfl : args = #[v0, v1, v2, v3, v4] := by cases args; simp_all
  obtain ⟨rfl, rfl⟩ := trodVars_none hV
  have key : Calls Try.prog 5 #[v0, v1, v2, v3, v4] W fun e w' => e = .returned (.bool true) ∧ Go.Draw.Ext W w' := by
    have hwd : ∀ m ∈ d0.weights Try.prog 26, m ≤ reachBytes := fun m hm => by
      have := List.all_eq_true.1 hwt m (DataW.weights_mem_each (j := 0) (t := 26) (d := d0) (by rw [Try.params5]; rfl) rfl m hm)
      simpa using this
    obtain ⟨A0, a0, R, rfl, hR, hRn, hRl⟩ := arg_raw (hval 0 26 v0 rfl rfl) h0 hwd
    obtain ⟨A1, n1, c1, us, rfl, hu, hn1, _⟩ := Go.Draw.arg_ints Try.underlying31 Try.underlying3 (by kernel_rfl) (hval 1 31 v1 rfl rfl) h1
    obtain ⟨A2, n2, c2, zs, rfl, hz, hn2, _⟩ := Go.Draw.arg_ints Try.underlying31 Try.underlying3 (by kernel_rfl) (hval 2 31 v2 rfl rfl) h2
    obtain ⟨a3, rfl, _⟩ := Go.Draw.arg_int Try.underlying3 (hval 3 3 v3 rfl rfl)
    obtain ⟨a4, rfl, _⟩ := Go.Draw.arg_int Try.underlying3 (hval 4 3 v4 rfl rfl)
    exact lawLists_any A0 a0 R A1 n1 c1 us A2 c2 n2 zs a3 a4 W hR hRn hRl hu hn1 hz (by have := hz.1; simpa using this) hn2
  refine key.mono fun e W' ⟨he, hg⟩ => ?_
  subst he
  exact ⟨_, rfl, Go.Draw.law_post (f := Try.f5) laidOut hW' hAll readable rfl rfl rfl rfl Try.underlying4 rfl hg⟩

theorem over : Rows.orderListsRow.holds Try.pinned (OpenSpec.ofChange Rows.orderListsSpec) :=
  OpenClaim.holds_of_wide 5 Try.f5 rfl rfl rfl rfl rfl rfl rfl ⟨rfl, rfl, rfl, rfl, rfl⟩ rfl rfl rfl rfl rfl (by kernel_rfl) Try.func5 (by kernel_rfl)
    (of_decide_eq_true (by kernel_rfl)) (by unfold Func.isWrapper; first | (rw [if_pos (by decide +kernel)]; kernel_rfl) | (rw [if_neg (by decide +kernel)]; exact ⟨rfl, rfl⟩))
    (fun os started H enc _ => lifted os started H enc)

theorem proved : Rows.OrderListsSaid :=
  over
#print axioms proved
end Go.Proofs.Ytljkadpconghnaa.orderLists
