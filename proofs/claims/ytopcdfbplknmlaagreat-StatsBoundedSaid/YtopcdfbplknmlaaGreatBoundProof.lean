/- The law StatsBounded returns true for every input and leaves its arguments as they were. No condition. -/
import Derived.Test.YtopcdfbplknmlaaGreatRows
import Derived.Test.YtopcdfbplknmlaaGreatG28
import Derived.Test.YtopcdfbplknmlaaGreatL
import Derived.WalkKit
import Derived.ProofKit
import Derived.OpenShut
set_option linter.all false
set_option maxRecDepth 100000
namespace Go.Proofs.YtopcdfbplknmlaaGreat.statsBounded
open Go.ChangeShapes Go.WideShapes Go.ChangeAt Go.RowKit
set_option linter.unusedVariables false
theorem own:ownKnob Tryz.prog.godebug=none:=by kernel_rfl
theorem zp9:laidOutB Tryz.prog=true:=by kernel_rfl
theorem zid:Tryz.prog.readableRec 22=true∧22<Tryz.prog.types.size:=⟨by kernel_rfl,of_decide_eq_true (by kernel_rfl)⟩
theorem zoj: ∀t∈Tryz.f3.params.toList,Tryz.prog.readableRec t=true∧t<Tryz.prog.types.size:=by
 rw[Tryz.params3];intro t ht;simp only[List.mem_cons,List.not_mem_nil,or_false]at ht;subst ht;exact zid
theorem zrv(os:Os)(started:os.Started)(H:Type)(enc:TypeId×Value->H):
 ReturnsInHanded {} Tryz.checked os 3 .any (Rows.statsBoundedSpec.pre6 enc Tryz.prog Tryz.f3 Rows.statsBoundedRow.domain false) (Rows.statsBoundedSpec.post enc Tryz.prog Tryz.f3 false true false false):=by
 refine returnsInHanded_of_change (C:=Tryz.checked) own started (by kernel_rfl) Tryz.func3
  (ChangeSpec.witness6 (enc:=enc) (C:=Tryz.checked) false ⟨#[],#[.slice none 0 0],[]⟩ 8 (by kernel_rfl) (by kernel_rfl) (by kernel_rfl) (by kernel_rfl)) ?_
 intro W base args ds gs before hval0 hW hcnd hsz;have hval: ∀(j:Nat) t v,Tryz.f3.params[j]? =some t->args[j]? =some v->Value.okWide Tryz.prog W .any base t v:=hval0;have hW':=hW;obtain⟨p,q,hA0,hV,rfl,hfz,hnd⟩:=hW;have hAll:DataW.TrodAll enc Tryz.prog W 0 (fun _=>true) true Tryz.f3.params.toList args.toList ds p:=hA0;have hA:=hAll;rw[Tryz.params3]at hA hval;obtain⟨v0,vs0,d0,ds0,p0,q0,hargs,rfl,rfl,h0,r0⟩:=trodAll_cons hA;obtain⟨rfl,rfl,rfl⟩:=trodAll_nil r0;obtain rfl:args= #[v0]:=by cases args;simp_all
 obtain⟨rfl,rfl⟩:=trodVars_none hV
 have key:Calls Tryz.prog 3 #[v0] W fun e w'=>e= .returned (.bool true)∧Go.Draw.Ext W w':=by
  obtain⟨A,n,c,zs,rfl,hz,hn,_⟩:=Go.Draw.arg_ints Tryz.underlying22 Tryz.underlying3 (by kernel_rfl) (hval 0 22 v0 rfl rfl) h0;exact zgt A n c zs W hz hn
 refine key.mono fun e W' ⟨he,hg⟩=> ?_
 subst he;exact⟨_,rfl,Go.Draw.law_post (f:=Tryz.f3) zp9 hW' hAll zoj rfl rfl rfl rfl Tryz.underlying4 rfl hg⟩
theorem zsj:Rows.statsBoundedRow.holds Tryz.pinned (OpenSpec.ofChange Rows.statsBoundedSpec):=
 OpenClaim.holds_of_wide 3 Tryz.f3 rfl rfl rfl rfl rfl rfl rfl ⟨rfl,rfl,rfl,rfl,rfl⟩ rfl rfl rfl rfl rfl (by kernel_rfl) Tryz.func3 (by kernel_rfl)
  (of_decide_eq_true (by kernel_rfl)) (by unfold Func.isWrapper;first|(rw[if_pos (by decide+kernel)];kernel_rfl)|(rw[if_neg (by decide+kernel)];exact⟨rfl,rfl⟩))
  (fun os started H enc _=>zrv os started H enc)
theorem proved:Rows.StatsBoundedSaid:=
 zsj
#print axioms proved
end Go.Proofs.YtopcdfbplknmlaaGreat.statsBounded
