/- The law ArenaKeeps returns true for every input and leaves its arguments as they were. No condition. -/
import Derived.Test.YtodoeckikkeacaaRows
import Derived.Test.YtodoeckikkeacaaH
import Derived.Test.YtodoeckikkeacaaRow
import Derived.Test.YtodoeckikkeacaaOpen
import Derived.WalkKit
import Derived.ProofKit
import Derived.OpenShut
namespace Go.Proofs.Ytodoeckikkeacaa.arenaKeeps
open Go.ChangeShapes Go.WideShapes Go.ChangeAt Go.RowKit
set_option linter.unusedVariables false

theorem own : ownKnob Try.prog.godebug = none := by kernel_rfl
theorem laidOut : laidOutB Try.prog = true := by kernel_rfl
theorem readable3 : Try.prog.readableRec 3 = true ∧ 3 < Try.prog.types.size := ⟨by kernel_rfl, of_decide_eq_true (by kernel_rfl)⟩
theorem readable22 : Try.prog.readableRec 22 = true ∧ 22 < Try.prog.types.size := ⟨by kernel_rfl, of_decide_eq_true (by kernel_rfl)⟩
theorem readable23 : Try.prog.readableRec 23 = true ∧ 23 < Try.prog.types.size := ⟨by kernel_rfl, of_decide_eq_true (by kernel_rfl)⟩
theorem readable : ∀ t ∈ Try.f4.params.toList, Try.prog.readableRec t = true ∧ t < Try.prog.types.size := by
  rw [Try.params4]
  intro t ht
  simp only [List.mem_cons, List.not_mem_nil, or_false] at ht
  rcases ht with rfl | rfl | rfl | rfl | rfl | rfl
  · exact readable22
  · exact readable3
  · exact readable3
  · exact readable3
  · exact readable3
  · exact readable23

set_option maxRecDepth 100000 in
theorem lifted (os : Os) (started : os.Started) (H : Type) (enc : TypeId × Value → H) :
    ReturnsInHanded {} Try.checked os 4 .any (Rows.arenaKeepsSpec.pre6 enc Try.prog Try.f4 Rows.arenaKeepsRow.domain false) (Rows.arenaKeepsSpec.post enc Try.prog Try.f4 false true false false) := by
  refine returnsInHanded_of_change (C := Try.checked) own started (by kernel_rfl) Try.func4
    (ChangeSpec.witness6 (enc := enc) (C := Try.checked) false ⟨#[], #[.slice none 0 0, .int .i64 0, .int .i64 0, .int .i64 0, .int .i64 0, .int .u64 0], []⟩ 8 (by kernel_rfl) (by kernel_rfl) (by kernel_rfl) (by kernel_rfl)) ?_
  intro W base args ds gs before hval0 hW hcnd hsz
  have hval : ∀ (j : Nat) t v, Try.f4.params[j]? = some t → args[j]? = some v → Value.okWide Try.prog W .any base t v := hval0
  have hW' := hW
  obtain ⟨p, q, hA0, hV, rfl, hfz, hnd⟩ := hW
  have hAll : DataW.TrodAll enc Try.prog W 0 (fun _ => true) true Try.f4.params.toList args.toList ds p := hA0
  have hA := hAll
  rw [Try.params4] at hA hval
  obtain ⟨v0, vs0, d0, ds0, p0, q0, hargs, rfl, rfl, h0, r0⟩ := trodAll_cons hA
  obtain ⟨v1, vs1, d1, ds1, p1, q1, rfl, rfl, rfl, h1, r1⟩ := trodAll_cons r0
  obtain ⟨v2, vs2, d2, ds2, p2, q2, rfl, rfl, rfl, h2, r2⟩ := trodAll_cons r1
  obtain ⟨v3, vs3, d3, ds3, p3, q3, rfl, rfl, rfl, h3, r3⟩ := trodAll_cons r2
  obtain ⟨v4, vs4, d4, ds4, p4, q4, rfl, rfl, rfl, h4, r4⟩ := trodAll_cons r3
  obtain ⟨v5, vs5, d5, ds5, p5, q5, rfl, rfl, rfl, h5, r5⟩ := trodAll_cons r4
  obtain ⟨rfl, rfl, rfl⟩ := trodAll_nil r5
  obtain rfl : args = #[v0, v1, v2, v3, v4, v5] := by cases args; simp_all
  obtain ⟨rfl, rfl⟩ := trodVars_none hV
  have key : Calls Try.prog 4 #[v0, v1, v2, v3, v4, v5] W fun e w' => e = .returned (.bool true) ∧ Go.Draw.Ext W w' := by
    obtain ⟨A, n, c, zs, rfl, hz, hn, hc, _⟩ := Go.Draw.arg_ints_cap Try.underlying22 Try.underlying23 (by kernel_rfl) (hval 0 22 v0 rfl rfl) h0
    obtain ⟨a1, rfl, _⟩ := Go.Draw.arg_int Try.underlying3 (hval 1 3 v1 rfl rfl)
    obtain ⟨a2, rfl, _⟩ := Go.Draw.arg_int Try.underlying3 (hval 2 3 v2 rfl rfl)
    obtain ⟨a3, rfl, _⟩ := Go.Draw.arg_int Try.underlying3 (hval 3 3 v3 rfl rfl)
    obtain ⟨a4, rfl, _⟩ := Go.Draw.arg_int Try.underlying3 (hval 4 3 v4 rfl rfl)
    obtain ⟨a5, rfl, _⟩ := Go.Draw.arg_int Try.underlying23 (hval 5 23 v5 rfl rfl)
    exact keeps_any A n c zs a1 a2 a3 a4 a5 W hz hc
  refine key.mono fun e W' ⟨he, hg⟩ => ?_
  subst he
  exact ⟨_, rfl, Go.Draw.law_post (f := Try.f4) laidOut hW' hAll readable rfl rfl rfl rfl Try.underlying4 rfl hg⟩

theorem over : Rows.arenaKeepsRow.holds Try.pinned (OpenSpec.ofChange Rows.arenaKeepsSpec) :=
  OpenClaim.holds_of_wide 4 Try.f4 rfl rfl rfl rfl rfl rfl rfl ⟨rfl, rfl, rfl, rfl, rfl⟩ rfl rfl rfl rfl rfl (by kernel_rfl) Try.func4 (by kernel_rfl)
    (of_decide_eq_true (by kernel_rfl)) (by unfold Func.isWrapper; first | (rw [if_pos (by decide +kernel)]; kernel_rfl) | (rw [if_neg (by decide +kernel)]; exact ⟨rfl, rfl⟩))
    (fun os started H enc _ => lifted os started H enc)

theorem proved : Rows.ArenaKeepsSaid :=
  over
#print axioms proved
end Go.Proofs.Ytodoeckikkeacaa.arenaKeeps
