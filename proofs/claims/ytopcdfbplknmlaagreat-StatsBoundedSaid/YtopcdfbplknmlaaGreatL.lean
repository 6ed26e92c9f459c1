/- Part of the proof of the claim: walks and plain laws; each theorem states its own conditions. -/
import Derived.Orders
import Derived.Laws.World
import Derived.Below
import Derived.ChangeSame
import Derived.OwnWalk
import Derived.Maps.AppendAt
import Derived.Deep.AppendLies
import Derived.WalkKit
import Derived.ProofKit
import Derived.OpenShut
import Derived.Deep.Grids
import Derived.Lib.SmallJoins
import Derived.Tactics
import Derived.IntWalk
set_option linter.all false
namespace Go.Draw
def yK(o:Oper):List Nat:=(o.after.toList.filter (Region.binds .any ·)).map (·.on)
def zeg(ops:List Oper):List (List Nat):=
 ops.foldl (fun acc o=>acc++ [((yK o).flatMap fun j=>j::acc.getD j []).eraseDups]) []
def zgu(ops:Array Oper)(cl:List (List Nat)):Bool:=
 (List.range ops.size).all fun i=>(cl.getD i []).all fun j=>
  match ops[i]? with
  |some o=>(yK o).any fun k=>k==j||(decide (k<i)&&(cl.getD k []).contains j)
  |none=>false
def vQ(ops:Array Oper)(x y:Oper):Bool:=
 match y.dst with
 |some d=>(x.looksAt ops).contains d||x.dst==some d
 |none=>false
def y1:Op->Bool
 | .select .. =>true
 |_=>false
def ve(ops:Array Oper)(cl:List (List Nat)):List Nat->Option Nat->List (Bool×Nat) ->Bool
 |_,_,[]=>true
 |done,last,(st,i)::rest=>
  (match ops[i]? with
    |some o=> !y1 o.op&&(yK o).all done.contains
    |none=>false)&&
  !done.contains i&&
  (match last with
    |some c=>(cl.getD i []).contains c
    |none=>true)&&
  ve ops cl (i::done) (if st then last else some i) rest
def zba(ops:Array Oper)(cl:List (List Nat)):Bool:=
 (List.range ops.size).all fun i=>(List.range ops.size).all fun j=>
  i==j||(match ops[i]?,ops[j]? with
   |some x,some y=> !vQ ops x y||(cl.getD i []).contains j||(cl.getD j []).contains i
   |_,_=>true)
def zap(ops:Array Oper)(pi:List (Bool×Nat)):Bool:=
 let cl:=zeg ops.toList;decide (pi.length<=ops.size)&&zgu ops cl&&zba ops cl&&(List.range ops.size).all (fun i=>(pi.map (·.2)).contains i)&&ve ops cl [] none pi
def zld(P:Program)(o:Oper)(a:Act)(v:Value)(w':World):Prop:=
 (execOp a.eval o).run P w'= .ok (.value v) w'∨∃f args,(execOp a.eval o).run P w'= .ok (.enter f args) w'∧Calls P f args w' fun e w''=>e= .returned v∧w'=w''
def wpE(P:Program)(ops:Array Oper)(R:World->World->Prop)(Q:Act->World->Prop):List (Bool×Nat) ->Act->World->Prop
 | [],a,w=>Q a w
 |(st,i)::rest,a,w=>
  match ops[i]? with
  |none=>False
  |some o=>
   if Region.wanted o (yielded ops a.tmps)=true then
    if st=true then∃v,(∀w',R w w'->zld P o a v w')∧wpE P ops R Q rest (a.put o.dst v) w
    else o.wp P a w (fun a' w'=>R w w'∧(∃v,a'=a.put o.dst v)∧wpE P ops R Q rest a' w') (fun _ _ _=>False)
   else wpE P ops R Q rest (a.put o.dst undef) w
section
variable{P:Program} {ops:Array Oper} {R:World->World->Prop}
def Yl(P:Program)(ops:Array Oper)(R:World->World->Prop)(o:Oper)(v:Value)(a:Act)(w:World):Prop:=
 (Region.wanted o (yielded ops a.tmps)=true∧∀w',R w w'->zld P o a v w')∨
 (Region.wanted o (yielded ops a.tmps)=false∧v=undef)
def xT(P:Program)(ops:Array Oper)(R:World->World->Prop):List (Nat×Value) ->Act->World->Prop
 | [],_,_=>True
 |(i,v)::L,a,w=> ∃o,ops[i]? =some o∧Yl P ops R o v a w∧xT P ops R L (a.put o.dst v) w
def puts(ops:Array Oper):List (Nat×Value) ->Act->Act
 | [],a=>a
 |(i,v)::L,a=>puts ops L (a.put ((ops[i]?).bind (·.dst)) v)
def Far(ops:Array Oper)(i j:Nat):Prop:=
 ∀x y,ops[i]? =some x->ops[j]? =some y->vQ ops x y=false∧vQ ops y x=false
theorem jo{x y:Oper}(h:vQ ops x y=false):(∀d,y.dst=some d->d∉x.looksAt ops)∧(∀d,y.dst=some d->x.dst≠some d):=by
 refine⟨fun d hd=> ?_,fun d hd=> ?_⟩<;>simp[vQ,hd]at h
 ·exact h.1
 ·exact h.2
theorem Yl.put{o x:Oper}{v u:Value}{a:Act}{w:World}(hs:y1 o.op=false)(h:vQ ops o x=false):
 Yl P ops R o v (a.put x.dst u) w↔Yl P ops R o v a w:=by
 have h1:=(jo h).1;have hs': ∀cs b,o.op≠ .select cs b:=by intro cs b e;rw[e]at hs;simp[y1]at hs
 unfold Yl zld;rw[wanted_put o a x.dst u h1,execOp_put (ops:=ops) o hs' a x.dst u h1]
theorem Yl.later(ht: ∀a b c,R a b->R b c->R a c){o:Oper}{v:Value}{a:Act}{w w':World}(h:Yl P ops R o v a w)(hr:R w w'):Yl P ops R o v a w':=by
 rcases h with⟨h1,h2⟩|h
 ·exact .inl ⟨h1,fun w2 h3=>h2 w2 (ht _ _ _ hr h3)⟩
 ·exact .inr h
theorem xT.later(ht: ∀a b c,R a b->R b c->R a c){w w':World}(hr:R w w'): ∀(L:List (Nat×Value)) (a:Act),xT P ops R L a w->xT P ops R L a w'
 | [],_,_=>trivial
 |(_,_)::L,_,⟨o,ho,hy,hp⟩=>⟨o,ho,hy.later ht hr,xT.later ht hr L _ hp⟩
theorem zcp{x y:Oper}(h:vQ ops x y=false)(a:Act)(v u:Value):(a.put x.dst v).put y.dst u=(a.put y.dst u).put x.dst v:=
 Act.put_comm a v u (fun d hd hy=>(jo h).2 d hy hd)
theorem xT.far{i:Nat}{o:Oper}(ho:ops[i]? =some o)(u:Value): ∀(L:List (Nat×Value)) (a:Act) (w:World),
 (∀p∈L,Far ops i p.1∧∀x,ops[p.1]? =some x->y1 x.op=false) ->xT P ops R L a w->
 xT P ops R L (a.put o.dst u) w∧puts ops L (a.put o.dst u)=(puts ops L a).put o.dst u
 | [],_,_,_,_=>⟨trivial,rfl⟩
 |(j,v)::L,a,w,hf,⟨x,hx,hy,hp⟩=>by
  obtain⟨h1,h2⟩:=hf (j,v) (by simp);obtain⟨h3,h4⟩:=h1 o x ho hx;have hc:=zcp (ops:=ops) h3 a u v;obtain⟨h5,h6⟩:=xT.far ho u L (a.put x.dst v) w (fun p hp'=>hf p (by simp[hp'])) hp;refine⟨⟨x,hx,(Yl.put (h2 x hx) h4).2 hy,?_⟩,?_⟩
  ·rw[hc];exact h5
  ·simp only[puts,hx,Option.bind_some]
   rw[hc];exact h6
theorem xT.pick{i:Nat}{o:Oper}{v:Value}(ho:ops[i]? =some o)(hso:y1 o.op=false)(L2:List (Nat×Value)): ∀(L1:List (Nat×Value)) (a:Act) (w:World),
 (∀p∈L1,Far ops i p.1∧∀x,ops[p.1]? =some x->y1 x.op=false) ->xT P ops R (L1++(i,v)::L2) a w->
 Yl P ops R o v a w∧xT P ops R (L1++L2) (a.put o.dst v) w∧puts ops (L1++L2) (a.put o.dst v)=puts ops (L1++(i,v)::L2) a
 | [],a,w,_,⟨x,hx,hy,hp⟩=>by
   obtain rfl:o=x:=by rw[ho]at hx;injection hx
   exact⟨hy,hp,by simp[puts,ho]⟩
 |(j,u)::L1,a,w,hf,⟨x,hx,hy,hp⟩=>by
  obtain⟨h1,h2⟩:=hf (j,u) (by simp);obtain⟨h3,h4⟩:=h1 o x ho hx;obtain⟨k1,k2,k3⟩:=xT.pick ho hso L2 L1 (a.put x.dst u) w (fun p hp'=>hf p (by simp[hp'])) hp;have hc:=zcp (ops:=ops) h3 a v u;refine⟨(Yl.put hso h3).1 k1,⟨x,hx,(Yl.put (h2 x hx) h4).2 hy,?_⟩,?_⟩
  ·rw[hc];exact k2
  ·simp only[List.cons_append,puts,hx,Option.bind_some]
   rw[hc];exact k3
theorem xT.append: ∀(L M:List (Nat×Value)) (a:Act) (w:World),xT P ops R L a w->xT P ops R M (puts ops L a) w->xT P ops R (L++M) a w
 | [],_,_,_,_,h=>h
 |(i,v)::L,M,a,w,⟨o,ho,hy,hp⟩,h=>⟨o,ho,hy,xT.append L M _ w hp (by simpa[puts,ho]using h)⟩
theorem vf: ∀(L M:List (Nat×Value)) (a:Act),puts ops (L++M) a=puts ops M (puts ops L a)
 | [],_,_=>rfl
 |(_,_)::L,M,_=>vf L M _
theorem vg{Q:Act->World->Prop}: ∀(r:List (Bool×Nat)) (rest:List (Bool×Nat)) (a:Act) (w:World),(∀p∈r,p.1=true) ->wpE P ops R Q (r++rest) a w->
 ∃M:List (Nat×Value),M.map (·.1)=r.map (·.2)∧xT P ops R M a w∧wpE P ops R Q rest (puts ops M a) w
 | [],_,_,_,_,h=>⟨[],rfl,trivial,h⟩
 |(st,i)::r,rest,a,w,hs,h=>by
  obtain rfl:st=true:=hs (st,i) (by simp);simp only[List.cons_append,wpE]at h;cases ho:ops[i]? with
  |none=>simp[ho]at h
  |some o=>
   simp only[ho,if_true]at h;by_cases hw:Region.wanted o (yielded ops a.tmps)=true
   ·rw[if_pos hw]at h
    obtain⟨v,hv,hr⟩:=h;obtain⟨M,hM,hp,he⟩:=vg r rest (a.put o.dst v) w (fun p hp=>hs p (by simp[hp])) hr;exact⟨(i,v)::M,by simp[hM],⟨o,ho,.inl ⟨hw,hv⟩,hp⟩,by simpa[puts,ho]using he⟩
   ·rw[if_neg hw]at h
    obtain⟨M,hM,hp,he⟩:=vg r rest (a.put o.dst undef) w (fun p hp=>hs p (by simp[hp])) h;exact⟨(i,undef)::M,by simp[hM],⟨o,ho,.inr ⟨by simpa using hw,rfl⟩,hp⟩,by simpa[puts,ho]using he⟩
def jJ(ops:Array Oper)(D:Nat->Prop):Prop:= ∀(i:Nat) (o:Oper),ops[i]? =some o->D i-> ∀j∈yK o,D j
theorem j3{cl:List (List Nat)}(hcl:zgu ops cl=true){D:Nat->Prop}(hD:jJ ops D): ∀(n i:Nat) (o:Oper),i<=n->ops[i]? =some o->(∀j∈yK o,D j) -> ∀j∈cl.getD i [],D j:=by
 intro n;induction n with
 |zero=>
  intro i o hi ho hd j hj;have hin:i<ops.size:=(Array.getElem?_eq_some_iff.1 ho).1;have h1:=List.all_eq_true.1 hcl i (by simpa using hin);have h2:=List.all_eq_true.1 h1 j hj;simp only[ho,List.any_eq_true,Bool.or_eq_true,beq_iff_eq,Bool.and_eq_true,decide_eq_true_eq]at h2;obtain⟨k,hk,h3|⟨h3,_⟩⟩:=h2
  ·exact h3▸hd k hk
  ·omega
 |succ n ih=>
  intro i o hi ho hd j hj;have hin:i<ops.size:=(Array.getElem?_eq_some_iff.1 ho).1;have h1:=List.all_eq_true.1 hcl i (by simpa using hin);have h2:=List.all_eq_true.1 h1 j hj;simp only[ho,List.any_eq_true,Bool.or_eq_true,beq_iff_eq,Bool.and_eq_true,decide_eq_true_eq]at h2;obtain⟨k,hk,h3|⟨h3,h4⟩⟩:=h2
  ·exact h3▸hd k hk
  ·have hkn:k<ops.size:=by omega
   exact ih k ops[k] (by omega) (by simp[hkn]) (hD k ops[k] (by simp[hkn]) (hd k hk)) j (by simpa using h4)
def qf:Option Nat->List (Bool×Nat) ->Option Nat
 |l,[]=>l
 |l,(st,i)::r=>qf (if st then l else some i) r
theorem jW: ∀(r:List (Bool×Nat)) (l:Option Nat),(∃p∈r,p.1=false) -> ∃k,qf l r=some k∧k∈r.map (·.2)
 | [],_,⟨_,h,_⟩=>by simp at h
 |(st,i)::r,l,⟨p,hp,hf⟩=>by
  by_cases hr: ∃q∈r,q.1=false
  ·obtain⟨k,h1,h2⟩:=jW r (if st then l else some i) hr
   exact⟨k,h1,by simp at h2|-;exact .inr h2⟩
  ·have hpe:p=(st,i):=by
    rcases List.mem_cons.1 hp with h|h
    ·exact h
    ·exact absurd ⟨p,h,hf⟩ hr
   subst hpe;have hst:st=false:=hf;subst hst
   have: ∀(r:List (Bool×Nat)) (l:Option Nat),(¬∃q∈r,q.1=false) ->qf l r=l:=by
    intro r;induction r with
    |nil=>intro l _;rfl
    |cons q r ih=>
     intro l hq;obtain⟨st,i⟩:=q
     have:st=true:=by
      cases st with
      |true=>rfl
      |false=>exact absurd ⟨(false,i),by simp,rfl⟩ hq
     subst this;simp only[qf,if_true];exact ih l (fun⟨q,h,h'⟩=>hq ⟨q,by simp[h],h'⟩)
   exact⟨i,by simp only[qf];exact this r _ hr,by simp⟩
theorem jr{cl:List (List Nat)}: ∀(p:List (Bool×Nat)) (dn:List Nat) (l:Option Nat) (st:Bool) (i:Nat) (r:List (Bool×Nat)),ve ops cl dn l (p++(st,i)::r)=true->
 ∃o,ops[i]? =some o∧y1 o.op=false∧(∀j∈yK o,j∈dn∨j∈p.map (·.2))∧i∉dn∧i∉p.map (·.2)∧(∀k,qf l p=some k->k∈cl.getD i [])
 | [],dn,l,st,i,r,h=>by
   simp only[List.nil_append,ve,Bool.and_eq_true,Bool.not_eq_true',List.contains_eq_mem,decide_eq_false_iff_not]at h;obtain⟨⟨⟨h1,h2⟩,h3⟩,_⟩:=h;cases ho:ops[i]? with
   |none=>simp[ho]at h1
   |some o=>
    simp only[ho,Bool.and_eq_true,Bool.not_eq_true',List.all_eq_true]at h1;refine⟨o,rfl,h1.1,fun j hj=> .inl (by simpa using h1.2 j hj),h2,by simp,fun k hk=> ?_⟩;simp only[qf]at hk;subst hk;simpa using h3
 |(s',i')::p,dn,l,st,i,r,h=>by
  simp only[List.cons_append,ve,Bool.and_eq_true]at h;obtain⟨o,h1,h2,h3,h4,h5,h6⟩:=jr p (i'::dn) _ st i r h.2;simp only[List.mem_cons,not_or]at h4;refine⟨o,h1,h2,fun j hj=> ?_,h4.2,by simp only[List.map_cons,List.mem_cons,not_or];exact⟨h4.1,h5⟩,h6⟩;rcases h3 j hj with h|h
  ·rcases List.mem_cons.1 h with h|h
   ·exact .inr (by simp[h])
   ·exact .inl h
  ·exact .inr (by simp only[List.map_cons,List.mem_cons];exact .inr h)
def Rel(ops:Array Oper)(cl:List (List Nat))(p q:Nat):Prop:=q∉cl.getD p []∧q≠p∧∀o,ops[p]? =some o->q∉yK o
theorem zbb{cl:List (List Nat)}(hcl:zgu ops cl=true): ∀(pi:List (Bool×Nat)) (dn:List Nat) (l:Option Nat),jJ ops (· ∈dn) ->ve ops cl dn l pi=true->
 (pi.map (·.2)).Pairwise (Rel ops cl)∧∀q∈pi.map (·.2),q∉dn
 | [],_,_,_,_=>⟨by simp,by simp⟩
 |(st,i)::pi,dn,l,hD,h=>by
  obtain⟨o,ho,_,hd,hi,_,_⟩:=jr [] dn l st i pi h;have hd': ∀j∈yK o,j∈dn:=fun j hj=>by simpa using hd j hj
  simp only[ve,Bool.and_eq_true]at h
  have hD':jJ ops (· ∈i::dn):=by
   intro k x hx hk j hj;rcases List.mem_cons.1 hk with hk|hk
   ·subst hk
    rw[ho]at hx;injection hx with hx;subst hx;exact List.mem_cons_of_mem _ (hd' j hj)
   ·exact List.mem_cons_of_mem _ (hD k x hx hk j hj)
  obtain⟨h1,h2⟩:=zbb hcl pi (i::dn) _ hD' h.2;refine⟨?_,fun q hq=> ?_⟩
  ·simp only[List.map_cons,List.pairwise_cons]
   refine⟨fun q hq=> ?_,h1⟩;have h3:=h2 q hq;simp only[List.mem_cons,not_or]at h3;refine⟨fun hc=>h3.2 (j3 hcl hD i i o (Nat.le_refl _) ho hd' q hc),h3.1,fun x hx hc=> ?_⟩;rw[ho]at hx;injection hx with hx;subst hx;exact h3.2 (hd' q hc)
  ·simp only[List.map_cons,List.mem_cons]at hq
   rcases hq with hq|hq
   ·exact hq▸hi
   ·have:=h2 q hq
    simp only[List.mem_cons,not_or]at this;exact this.2
theorem zdr{cl:List (List Nat)}(ht:zba ops cl=true){i j:Nat}(hne:i≠j)(h1:j∉cl.getD i [])(h2:i∉cl.getD j []):Far ops i j:=by
 intro x y hx hy;have hi:i<ops.size:=(Array.getElem?_eq_some_iff.1 hx).1;have hj:j<ops.size:=(Array.getElem?_eq_some_iff.1 hy).1;have a1:=List.all_eq_true.1 (List.all_eq_true.1 ht i (by simpa using hi)) j (by simpa using hj);have a2:=List.all_eq_true.1 (List.all_eq_true.1 ht j (by simpa using hj)) i (by simpa using hi);have n1:(cl.getD i []).contains j=false:=by simpa using h1
 have n2:(cl.getD j []).contains i=false:=by simpa using h2
 have e1:(i==j)=false:=by simpa using hne
 have e2:(j==i)=false:=by simpa using(fun e=>hne e.symm)
 simp only[hx,hy,n1,n2,e1,e2,Bool.false_or,Bool.or_false,Bool.not_eq_true']at a1 a2;exact⟨a1,a2⟩
theorem jG{o:Oper}{a b:Act}{w:World}{K K':Act->World->Prop}{Q:Exit->Act->World->Prop}
 (hex:execOp a.eval o=execOp b.eval o) (h:o.wp P b w (fun b' w'=>(∃v,b'=b.put o.dst v)∧K b' w') (fun _ _ _=>False))
 (hk: ∀v w',K (b.put o.dst v) w'->K' (a.put o.dst v) w'):o.wp P a w K' Q:=by
 unfold Oper.wp at*;rw[hex];generalize(execOp b.eval o).run P w=r at*;cases r with
 |ok n w'=>
  cases n;case value v=>exact hk _ _ h.2
  case skip=>exact hk _ _ h.2
  case enter f args=>
   exact Calls.mono h (fun e w'' he=>by
    cases e with
    |returned v=>exact hk _ _ he.2
    |panicked c=>exact he.elim
    |outgrown=>obtain⟨_,_,he⟩:=he;exact he.elim)
  case row r args=>exact Rows.mono h (fun _ _ he=>hk _ _ he.2)
  all_goals first
   |(simp only[Oper.upon]at h;done)
   |(simp only[Oper.upon]at h
     obtain⟨⟨v,hv⟩,_⟩:=h;have:=congrArg Act.defers hv;cases hd:o.dst<;>simp[Act.put,hd]at this)
 |halt x w'=>
  cases x<;>simp only[Oper.upon]at h
theorem kZ{i:Nat}{o:Oper}(ho:ops[i]? =some o)(hso:y1 o.op=false): ∀(L:List (Nat×Value)) (a:Act),(∀p∈L,Far ops i p.1) ->
 execOp (puts ops L a).eval o=execOp a.eval o∧Region.wanted o (yielded ops (puts ops L a).tmps)=Region.wanted o (yielded ops a.tmps)
 | [],_,_=>⟨rfl,rfl⟩
 |(j,v)::L,a,hf=>by
  obtain⟨h1,h2⟩:=kZ ho hso L (a.put ((ops[j]?).bind (·.dst)) v) (fun p hp=>hf p (by simp[hp]));simp only[puts];rw[h1,h2];cases hj:ops[j]? with
  |none=>exact⟨rfl,rfl⟩
  |some x=>
   have hs': ∀cs b,o.op≠ .select cs b:=by intro cs b e;rw[e]at hso;simp[y1]at hso
   have h3:=(jo (hf (j,v) (by simp) o x ho hj).1).1;simp only[Option.bind_some];exact⟨execOp_put (ops:=ops) o hs' a x.dst v h3,wanted_put o a x.dst v h3⟩
theorem sim{Q:Exit->Act->World->Prop}{pi:List (Bool×Nat)}{cl:List (List Nat)}(hr: ∀w,R w w)(ht: ∀a b c,R a b->R b c->R a c)
 (hcl:zgu ops cl=true) (htm:zba ops cl=true) (hall: ∀i,i<ops.size->i∈pi.map (·.2)) (hord:ve ops cl [] none pi=true):
 ∀(fuel:Nat) (listed:Array Bool) (L:List (Nat×Value)) (c r:List (Bool×Nat)) (a:Act) (w:World),pi=c++r->(L.map (·.1)).Sublist (c.map (·.2)) ->
  (∀i,i<ops.size->(listed.getD i true=true↔i∈c.map (·.2)∧i∉L.map (·.1))) ->listed.size=ops.size->jJ ops (fun j=>listed.getD j false=true) ->L.length+r.length<=fuel->
  xT P ops R L a w->wpE P ops R (Q .normal) r (puts ops L a) w->wpAny P .any ops Q fuel listed a w:=by
 have hnil:jJ ops (· ∈([]:List Nat)):=fun _ _ _ h=>by simp at h
 obtain⟨hpair,_⟩:=zbb hcl pi [] none hnil hord
 have hinf: ∀i∈pi.map (·.2),∃o,ops[i]? =some o∧y1 o.op=false:=by
  intro i hi;obtain⟨⟨st,i'⟩,hp,rfl⟩:=List.mem_map.1 hi;obtain⟨A,B,hAB⟩:=List.append_of_mem hp;obtain⟨o,h1,h2,_⟩:=jr A [] none st i' B (hAB▸hord);exact⟨o,h1,h2⟩
 have hahead: ∀(A B:List (Bool×Nat)) (st:Bool) (i:Nat),pi=A++(st,i)::B-> ∃o,ops[i]? =some o∧y1 o.op=false∧(∀j∈yK o,j∈A.map (·.2))∧i∉A.map (·.2)∧(∀k,qf none A=some k->k∈cl.getD i []):=by
  intro A B st i hAB;obtain⟨o,h1,h2,h3,_,h5,h6⟩:=jr A [] none st i B (hAB▸hord);exact⟨o,h1,h2,fun j hj=>(h3 j hj).resolve_left (by simp),h5,h6⟩
 intro fuel;induction fuel with
 |zero=>
  intro listed L c r a w hpi hsub hlist hls hDn hlen hp he;have hL:L= []:=List.eq_nil_of_length_eq_zero (by omega);have hrr:r= []:=List.eq_nil_of_length_eq_zero (by omega);subst hL;subst hrr;refine⟨?_,he⟩;simp only[Region.ready,List.filter_eq_nil_iff,List.mem_range];intro i hi;have:listed.getD i true=true:=(hlist i hi).2 ⟨by have:=hall i hi;rw[hpi]at this;simpa using this,by simp⟩;simp only[this,Bool.not_true,Bool.false_and,Bool.false_eq_true,not_false_eq_true]
 |succ fuel ih=>
  intro listed L c r a w hpi hsub hlist hls hDn hlen hp he
  have hmem_ready: ∀i,i∈Region.ready .any ops listed↔i<ops.size∧listed.getD i true=false∧∀o,ops[i]? =some o-> ∀j∈yK o,listed.getD j false=true:=by
   intro i;simp only[Region.ready,List.mem_filter,List.mem_range,Bool.and_eq_true,Bool.not_eq_true'];constructor
   ·rintro⟨h1,h2,h3⟩
    refine⟨h1,h2,fun o ho j hj=> ?_⟩;simp only[ho,Option.map_some,Option.getD_some,Array.all_eq_true',Bool.or_eq_true,Bool.not_eq_true']at h3;simp only[yK,List.mem_map,List.mem_filter]at hj;obtain⟨e,⟨he1,he2⟩,rfl⟩:=hj;have:=h3 e (by simpa using he1);rw[he2]at this;simpa using this
   ·rintro⟨h1,h2,h3⟩
    refine⟨h1,h2,?_⟩;have ho:ops[i]? =some ops[i]:=by simp[h1]
    simp only[ho,Option.map_some,Option.getD_some,Array.all_eq_true',Bool.or_eq_true,Bool.not_eq_true'];intro e he;cases hb:Region.binds .any e with
    |false=>exact .inl rfl
    |true=>exact .inr (h3 _ ho e.on (by simp only[yK,List.mem_map,List.mem_filter];exact⟨e,⟨by simpa using he,hb⟩,rfl⟩))
  have hget: ∀j,j<ops.size->listed.getD j false=listed.getD j true:=by
   intro j hj;simp[Array.getD,hls,hj]
  have hlt: ∀i∈pi.map (·.2),i<ops.size:=fun i hi=>by
   obtain⟨o,ho,_⟩:=hinf i hi;exact(Array.getElem?_eq_some_iff.1 ho).1
  have hcpi: ∀i∈c.map (·.2),i∈pi.map (·.2):=fun i hi=>by rw[hpi];simp only[List.map_append,List.mem_append];exact .inl hi
  have hLpi: ∀i∈L.map (·.1),i∈pi.map (·.2):=fun i hi=>hcpi i (hsub.subset hi)
  have hDown:jJ ops (fun i=>i∈c.map (·.2)):=by
   intro i o ho hi j hj;obtain⟨⟨st,i'⟩,hpm,rfl⟩:=List.mem_map.1 hi;obtain⟨A,B,hAB⟩:=List.append_of_mem hpm;obtain⟨o',h1,_,h3,_⟩:=hahead A (B++r) st i' (by rw[hpi,hAB];simp);rw[ho]at h1;injection h1 with h1;subst h1;rw[hAB];simp only[List.map_append,List.mem_append];exact .inl (h3 j hj)
  refine⟨fun hnone=> ?_,?_⟩
  ·
   cases L with
   |nil=>
    cases r with
    |nil=>exact he
    |cons x r=>
     exfalso;obtain⟨st,i⟩:=x;obtain⟨o,h1,_,h3,h4,_⟩:=hahead c r st i hpi;have hi:i<ops.size:=(Array.getElem?_eq_some_iff.1 h1).1
     have:i∈Region.ready .any ops listed:=(hmem_ready i).2 ⟨hi,by
      have:=hlist i hi;cases hg:listed.getD i true with
      |false=>rfl
      |true=>exact absurd (this.1 hg).1 h4,fun o' ho' j hj=>by
      rw[h1]at ho';injection ho' with ho';subst ho';have hjc:=h3 j hj;have hjl:=hlt j (hcpi j hjc);rw[hget j hjl];exact(hlist j hjl).2 ⟨hjc,by simp⟩⟩
     rw[hnone]at this;simp at this
   |cons x L=>
    exfalso;obtain⟨i,v⟩:=x;have hic:i∈c.map (·.2):=hsub.subset (by simp);obtain⟨o,h1,_⟩:=hinf i (hcpi i hic);have hi:i<ops.size:=(Array.getElem?_eq_some_iff.1 h1).1;have hpl:(((i,v)::L).map (·.1)).Pairwise (Rel ops cl):=(hpair.sublist (by rw[hpi];simp only[List.map_append];exact List.sublist_append_left _ _)).sublist hsub;simp only[List.map_cons,List.pairwise_cons]at hpl
    have:i∈Region.ready .any ops listed:=(hmem_ready i).2 ⟨hi,by
     have:=hlist i hi;cases hg:listed.getD i true with
     |false=>rfl
     |true=>exact absurd (by simp) (this.1 hg).2,fun o' ho' j hj=>by
     have hjc:=hDown i o' ho' hic j hj;have hjl:=hlt j (hcpi j hjc);rw[hget j hjl];refine(hlist j hjl).2 ⟨hjc,fun hjL=> ?_⟩;simp only[List.map_cons,List.mem_cons]at hjL;rcases hjL with hjL|hjL
     ·subst hjL
      obtain⟨⟨st,i'⟩,hpm,hpe⟩:=List.mem_map.1 hic;simp only at hpe;subst hpe;obtain⟨A,B,hAB⟩:=List.append_of_mem hpm;obtain⟨o2,k1,_,k3,k4,_⟩:=hahead A (B++r) st i' (by rw[hpi,hAB];simp);rw[ho']at k1;injection k1 with k1;subst k1;exact k4 (k3 _ hj)
     ·exact(hpl.1 j hjL).2.2 o' ho' hj⟩
    rw[hnone]at this;simp at this
  ·intro i hi
   obtain⟨hin,hun,hdir⟩:=(hmem_ready i).1 hi;obtain⟨o,ho,hso⟩:=hinf i (hall i hin);have hcl_i: ∀j∈cl.getD i [],listed.getD j false=true:=j3 hcl hDn i i o (Nat.le_refl _) ho (hdir o ho)
   have hDn':jJ ops (fun j=>(listed.setIfInBounds i true).getD j false=true):=by
    have hset: ∀j,(listed.setIfInBounds i true).getD j false=if j=i then true else listed.getD j false:=by
     intro j;by_cases hji:j=i
     ·subst hji;simp[Array.getD,hls,hin]
     ·rw[if_neg hji];simp only[Array.getD,Array.size_setIfInBounds]
      split
      ·exact Array.getElem_setIfInBounds_ne _ (Ne.symm hji)
      ·rfl
    intro k x hx hk j hj;rw[hset]at hk|-;by_cases hji:j=i
    ·simp[hji]
    ·rw[if_neg hji]
     by_cases hki:k=i
     ·subst hki
      rw[ho]at hx;injection hx with hx;subst hx;exact hdir o ho j hj
     ·rw[if_neg hki]at hk
      exact hDn k x hx hk j hj
   have hsize':(listed.setIfInBounds i true).size=ops.size:=by simp[hls]
   have hset: ∀j,(listed.setIfInBounds i true).getD j true=if j=i then true else listed.getD j true:=by
    intro j;by_cases hji:j=i
    ·subst hji;simp[Array.getD,hls,hin]
    ·rw[if_neg hji];simp only[Array.getD,Array.size_setIfInBounds]
     split
     ·exact Array.getElem_setIfInBounds_ne _ (Ne.symm hji)
     ·rfl
   have caseA: ∀(L:List (Nat×Value)) (c r:List (Bool×Nat)),pi=c++r->(L.map (·.1)).Sublist (c.map (·.2)) ->
    (∀i,i<ops.size->(listed.getD i true=true↔i∈c.map (·.2)∧i∉L.map (·.1))) ->L.length+r.length<=fuel+1->
    xT P ops R L a w->wpE P ops R (Q .normal) r (puts ops L a) w->i∈L.map (·.1) ->wpOp P ops Q i (wpAny P .any ops Q fuel (listed.setIfInBounds i true)) a w:=by
    intro L c r hpi hsub hlist hlen hp he hiL;obtain⟨⟨i',v⟩,hm,hie⟩:=List.mem_map.1 hiL;simp only at hie;subst hie;obtain⟨L1,L2,hLe⟩:=List.append_of_mem hm;subst hLe;have hpl:((L1++(i',v)::L2).map (·.1)).Pairwise (Rel ops cl):=(hpair.sublist (by rw[hpi];simp only[List.map_append];exact List.sublist_append_left _ _)).sublist hsub;have hpl':=hpl;simp only[List.map_append,List.map_cons,List.pairwise_append,List.pairwise_cons]at hpl;obtain⟨_,⟨hafter,_⟩,hcross⟩:=hpl
    have hfar: ∀p∈L1,Far ops i' p.1∧∀x,ops[p.1]? =some x->y1 x.op=false:=by
     intro p hpm;have hrel:=hcross p.1 (List.mem_map.2 ⟨p,hpm,rfl⟩) i' (by simp);have hpL:p.1∈(L1++(i',v)::L2).map (·.1):=List.mem_map.2 ⟨p,by simp[hpm],rfl⟩;have hpc:p.1∈pi.map (·.2):=by rw[hpi];simp only[List.map_append,List.mem_append];exact .inl (hsub.subset hpL)
     refine⟨zdr htm hrel.2.1 (fun hc=> ?_) hrel.1,fun x hx=> ?_⟩
     ·have h1:=hcl_i p.1 hc
      rw[hget p.1 (hlt _ hpc)]at h1;exact((hlist p.1 (hlt _ hpc)).1 h1).2 hpL
     ·obtain⟨x',hx',hs'⟩:=hinf p.1 hpc
      rw[hx]at hx';injection hx' with hx';subst hx';exact hs'
    obtain⟨hy,hp',hpe⟩:=xT.pick ho hso L2 L1 a w hfar hp
    have hnot:i'∉(L1++L2).map (·.1):=by
     simp only[List.map_append,List.mem_append,not_or];refine⟨fun hc=> ?_,fun hc=> ?_⟩
     ·exact(hcross i' hc i' (by simp)).2.1 rfl
     ·exact(hafter i' hc).2.1 rfl
    have hnext:wpAny P .any ops Q fuel (listed.setIfInBounds i' true) (a.put o.dst v) w:=by
     refine ih _ (L1++L2) c r _ w hpi ?_ ?_ hsize' hDn' ?_ hp' (by rw[hpe];exact he)
     ·refine List.Sublist.trans ?_ hsub
      simp
     ·intro k hk
      rw[hset];by_cases hki:k=i'
      ·subst hki
       simp only[if_true,true_iff];exact⟨hsub.subset hiL,hnot⟩
      ·rw[if_neg hki,hlist k hk]
       simp only[List.map_append,List.mem_append,List.map_cons,List.mem_cons,not_or,hki,not_false_eq_true,true_and]
     ·simp only[List.length_append,List.length_cons]at hlen|-;omega
    unfold wpOp;simp only[ho];rcases hy with⟨h1,h2⟩|⟨h1,h2⟩
    ·rw[if_pos h1]
     refine .inl ?_;unfold Oper.wp;rcases h2 w (hr w)with h3|⟨f,args,h3,h4⟩
     ·rw[h3]
      exact hnext
     ·rw[h3]
      refine h4.mono ?_;rintro e w'' ⟨rfl,rfl⟩;exact hnext
    ·rw[if_neg (by rw[h1];simp)]
     subst h2;exact hnext
   by_cases hiL:i∈L.map (·.1)
   ·exact caseA L c r hpi hsub hlist hlen hp he hiL
   ·have hic:i∉c.map (·.2):=fun hc=>by
     rw[(hlist i hin).2 ⟨hc,hiL⟩]at hun;simp at hun
    have hir:i∈r.map (·.2):=by
     have:=hall i hin;rw[hpi]at this;simp only[List.map_append,List.mem_append]at this;exact this.resolve_left hic
    obtain⟨⟨st,i'⟩,hm,hie⟩:=List.mem_map.1 hir;simp only at hie;subst hie;obtain⟨r1,r2,hre⟩:=List.append_of_mem hm;subst hre;obtain⟨o',ho',_,_,hnA,hlast⟩:=hahead (c++r1) r2 st i' (by rw[hpi];simp);have hpp:=hpair;rw[hpi]at hpp;simp only[List.map_append,List.map_cons,List.pairwise_append,List.pairwise_cons,List.mem_append,List.mem_cons]at hpp;obtain⟨_,⟨_,_,hr1⟩,hcr⟩:=hpp
    have hst1: ∀p∈r1,p.1=true:=by
     intro p hpm;cases hp1:p.1 with
     |true=>rfl
     |false=>
      exfalso;obtain⟨k,hk1,hk2⟩:=jW r1 (qf none c) ⟨p,hpm,hp1⟩
      have happ: ∀(x y:List (Bool×Nat)) (l:Option Nat),qf l (x++y)=qf (qf l x) y:=by
       intro x;induction x with
       |nil=>intro y l;rfl
       |cons q x ihx=>intro y l;obtain⟨s1,i1⟩:=q;simp only[List.cons_append,qf];exact ihx y _
      have hk3:=hlast k (by rw[happ];exact hk1);have hkl:=hcl_i k hk3;have hkn:k<ops.size:=hlt k (by rw[hpi];simp only[List.map_append,List.mem_append,List.map_cons,List.mem_cons];exact .inr (.inl hk2));rw[hget k hkn]at hkl;have hkc:=((hlist k hkn).1 hkl).1;exact(hcr k hkc k (.inl hk2)).2.1 rfl
    cases st with
    |true=>
     obtain⟨M,hM,hpM,heM⟩:=vg (P:=P) (R:=R) (r1++ [(true,i')]) r2 (puts ops L a) w (by
      intro p hpm;rcases List.mem_append.1 hpm with h|h
      ·exact hst1 p h
      ·simp at h;simp[h]) (by simpa using he)
     have hMl:M.length=r1.length+1:=by have:=congrArg List.length hM;simpa using this
     refine caseA (L++M) (c++(r1++ [(true,i')])) r2 (by rw[hpi];simp) ?_ ?_ ?_ (xT.append L M a w hp hpM) (by rw[vf];exact heM) ?_
     ·rw[List.map_append,List.map_append,hM]
      exact List.Sublist.append hsub (List.Sublist.refl _)
     ·intro k hk
      rw[hlist k hk];simp only[List.map_append,List.mem_append,hM];constructor
      ·rintro⟨h1,h2⟩
       refine⟨.inl h1,fun h3=> ?_⟩;rcases h3 with h3|h3
       ·exact h2 h3
       ·rcases h3 with h3|h3
        ·exact(hcr k h1 k (.inl h3)).2.1 rfl
        ·simp at h3;subst h3;exact hic h1
      ·rintro⟨h1,h2⟩
       simp only[not_or]at h2;exact⟨h1.resolve_right (fun h=>h.elim h2.2.1 h2.2.2),h2.1⟩
     ·simp only[List.length_append,List.length_cons]at hlen|-;omega
     ·rw[List.map_append,hM];simp
    |false=>
     obtain⟨M,hM,hpM,heM⟩:=vg (P:=P) (R:=R) r1 ((false,i')::r2) (puts ops L a) w hst1 he;have hMl:M.length=r1.length:=by have:=congrArg List.length hM;simpa using this
     have hpLM:=xT.append L M a w hp hpM
     have hLMsub:((L++M).map (·.1)).Sublist ((c++r1).map (·.2)):=by
      rw[List.map_append,List.map_append,hM];exact List.Sublist.append hsub (List.Sublist.refl _)
     rw[<-vf]at heM
     have hfar: ∀p∈L++M,Far ops i' p.1∧∀x,ops[p.1]? =some x->y1 x.op=false:=by
      intro p hpm;have hpc:p.1∈(c++r1).map (·.2):=hLMsub.subset (List.mem_map.2 ⟨p,hpm,rfl⟩)
      have hpc2:p.1∈pi.map (·.2):=by
       rw[hpi];simp only[List.map_append,List.mem_append,List.map_cons,List.mem_cons]at hpc|-;rcases hpc with h|h
       ·exact .inl h
       ·exact .inr (.inl h)
      have hrel:Rel ops cl p.1 i':=by
       simp only[List.map_append,List.mem_append]at hpc;rcases hpc with h|h
       ·exact hcr p.1 h i' (.inr (.inl rfl))
       ·exact hr1 p.1 h i' (.inl rfl)
      refine⟨zdr htm hrel.2.1 (fun hc=> ?_) hrel.1,fun x hx=> ?_⟩
      ·have h1:=hcl_i p.1 hc
       rw[hget p.1 (hlt _ hpc2)]at h1;have h2:=(hlist p.1 (hlt _ hpc2)).1 h1;rcases List.mem_append.1 hpm with h|h
       ·exact h2.2 (List.mem_map.2 ⟨p,h,rfl⟩)
       ·have h3:p.1∈r1.map (·.2):=by rw[<-hM];exact List.mem_map.2 ⟨p,h,rfl⟩
        exact(hcr p.1 h2.1 p.1 (.inl h3)).2.1 rfl
      ·obtain⟨x',hx',hs'⟩:=hinf p.1 hpc2
       rw[hx]at hx';injection hx' with hx';subst hx';exact hs'
     obtain⟨hex,hwa⟩:=kZ ho hso (L++M) a (fun p hpm=>(hfar p hpm).1)
     have hnext: ∀v w',R w w'->wpE P ops R (Q .normal) r2 ((puts ops (L++M) a).put o.dst v) w'->wpAny P .any ops Q fuel (listed.setIfInBounds i' true) (a.put o.dst v) w':=by
      intro v w' hrw he';obtain⟨hpf,hpe⟩:=xT.far ho v (L++M) a w hfar hpLM;refine ih _ (L++M) (c++r1++ [(false,i')]) r2 _ w' (by rw[hpi];simp) ?_ ?_ hsize' hDn' ?_ (hpf.later ht hrw) (by rw[hpe];exact he')
      ·rw[List.map_append (l₂:= [(false,i')])]
       exact hLMsub.trans (List.sublist_append_left _ _)
      ·intro k hk
       rw[hset];by_cases hki:k=i'
       ·subst hki
        simp only[if_true,true_iff];exact⟨by simp,fun h=>hnA (hLMsub.subset h)⟩
       ·rw[if_neg hki,hlist k hk]
        simp only[List.map_append,List.mem_append,hM,List.map_cons,List.map_nil,List.mem_cons,List.not_mem_nil,or_false,hki];constructor
        ·rintro⟨h1,h2⟩
         exact⟨.inl h1,fun h3=>h3.elim h2 (fun h3=>(hcr k h1 k (.inl h3)).2.1 rfl)⟩
        ·rintro⟨h1,h2⟩
         simp only[not_or]at h2;exact⟨h1.resolve_right h2.2,h2.1⟩
      ·simp only[List.length_append,List.length_cons]at hlen|-;omega
     simp only[wpE,ho]at heM;unfold wpOp;simp only[ho];by_cases hw:Region.wanted o (yielded ops a.tmps)=true
     ·rw[if_pos (by rw[hwa];exact hw),if_neg (by simp)]at heM
      rw[if_pos hw];refine .inl (jG (K:=fun a' w'=>R w w'∧wpE P ops R (Q .normal) r2 a' w') hex.symm ?_ (fun v w' hk=>hnext v w' hk.1 hk.2));exact Oper.wp_mono (fun a' w' h=>⟨h.2.1,h.1,h.2.2⟩) heM
     ·rw[if_neg (by rw[hwa];exact hw)]at heM
      rw[if_neg hw];exact hnext undef w (hr w) heM
theorem zcm{id:Nat}{Q:Exit->Act->World->Prop}{a:Act}{w:World}(R:World->World->Prop)(pi:List (Bool×Nat))(hr: ∀w,R w w)(ht: ∀a b c,R a b->R b c->R a c)
 (hm:P.follows .mixedOrders=true) (hck:zap ops pi=true) (h:wpE P ops R (Q .normal) pi a w.drew):(Code.region id ops true).wp P Q a w:=by
 simp only[zap,Bool.and_eq_true,List.all_eq_true,List.mem_range,List.contains_eq_mem,decide_eq_true_eq]at hck;obtain⟨⟨⟨⟨h0,h1⟩,h2⟩,h3⟩,h4⟩:=hck;refine wp_region_any hm (sim (pi:=pi) hr ht h1 h2 h3 h4 ops.size _ [] [] pi a _ rfl (by simp) ?_ (by simp) ?_ ?_ trivial h)
 ·intro i hi
  simp[Array.getD,hi]
 ·intro i o ho hd
  have hi:i<ops.size:=(Array.getElem?_eq_some_iff.1 ho).1;simp[Array.getD,hi]at hd
 ·simpa using h0
def Ext(w w':World):Prop:=RowKit.Below w.heap.size w w'
theorem Ext.refl(w:World):Ext w w:=RowKit.Below.refl _ _
theorem Ext.trans{a b c:World}(h:Ext a b)(k:Ext b c):Ext a c:=RowKit.Below.trans h (k.mono h.size)
theorem Ext.alloc{a w:World}(h:Ext a w)(o:Obj):Ext a (w.alloc o):=RowKit.Below.alloc h h.size o
theorem Ext.drew{a w:World}(h:Ext a w):Ext a w.drew:=RowKit.Below.drew h
theorem Ext.setCell{a w:World}(h:Ext a w){p:Addr}(hp:a.heap.size<=p.block)(u:Value):Ext a (w.setCell p u):=RowKit.Below.setCell h hp u
theorem Ext.drewL{a w:World}(h:Ext a w):Ext a.drew w:=⟨h.os,h.tape,h.output,h.size,h.block⟩
theorem Ext.size_le{w w':World}(h:Ext w w'):w.heap.size<=w'.heap.size:=h.size
theorem Ext.cell{w w':World}(h:Ext w w')(b o:Nat)(hc:(w.cell? ⟨b,o,none⟩).isSome=true):w'.cell? ⟨b,o,none⟩=w.cell? ⟨b,o,none⟩:=by
 refine RowKit.Below.cell h ?_;show b<w.heap.size;rcases Nat.lt_or_ge b w.heap.size with hlt|hge
 ·exact hlt
 ·simp[World.cell?,Array.getElem?_eq_none hge]at hc
def pick(ops:Array Oper)(pi:List (Bool×Nat)):List (Bool×Oper):=pi.filterMap fun p=>(ops[p.2]?).map (p.1,·)
def zbc(P:Program)(ops:Array Oper)(R:World->World->Prop)(Q:Act->World->Prop):List (Bool×Oper) ->Act->World->Prop
 | [],a,w=>Q a w
 |(st,o)::rest,a,w=>
  if Region.wanted o (yielded ops a.tmps)=true then
   if st=true then∃v,(∀w',R w w'->zld P o a v w')∧zbc P ops R Q rest (a.put o.dst v) w
   else o.wp P a w (fun a' w'=>R w w'∧(∃v,a'=a.put o.dst v)∧zbc P ops R Q rest a' w') (fun _ _ _=>False)
  else zbc P ops R Q rest (a.put o.dst undef) w
theorem zaq{Q:Act->World->Prop}: ∀(pi:List (Bool×Nat)) (a:Act) (w:World),(∀p∈pi,p.2<ops.size) ->zbc P ops R Q (pick ops pi) a w->wpE P ops R Q pi a w
 | [],_,_,_,h=>h
 |(st,i)::pi,a,w,hp,h=>by
  have hi:i<ops.size:=hp (st,i) (by simp);have ho:ops[i]? =some ops[i]:=by simp[hi]
  have ih:=fun a w=>zaq (Q:=Q) pi a w (fun p h=>hp p (by simp[h]))
  simp only[pick,List.filterMap_cons,ho,Option.map_some,zbc]at h;simp only[wpE,ho];by_cases hw:Region.wanted ops[i] (yielded ops a.tmps)=true
  ·rw[if_pos hw]at h|-
   cases st with
   |true=>
    rw[if_pos rfl]at h|-;obtain⟨v,h1,h2⟩:=h;exact⟨v,h1,ih _ _ h2⟩
   |false=>
    rw[if_neg (by simp)]at h|-;exact Oper.wp_mono (fun a' w' h=>⟨h.1,h.2.1,ih _ _ h.2.2⟩) h
  ·rw[if_neg hw]at h|-
   exact ih _ _ h
theorem zar{id:Nat}{Q:Exit->Act->World->Prop}{a:Act}{w:World}(R:World->World->Prop)(hr: ∀w,R w w)(ht: ∀a b c,R a b->R b c->R a c)(pi:List (Bool×Nat)){l:List (Bool×Oper)}
 (hm:P.follows .mixedOrders=true) (hck:zap ops pi=true) (hl:pick ops pi=l) (h:zbc P ops R (Q .normal) l a w.drew):(Code.region id ops true).wp P Q a w:=by
 refine zcm R pi hr ht hm hck (zaq pi a _ ?_ (hl▸h));simp only[zap,Bool.and_eq_true,List.all_eq_true,List.mem_range,List.contains_eq_mem,decide_eq_true_eq]at hck;obtain⟨⟨⟨⟨_,_⟩,_⟩,_⟩,h4⟩:=hck;intro p hp;obtain⟨A,B,hAB⟩:=List.append_of_mem hp;obtain⟨o,h1,_⟩:=jr A [] none p.1 p.2 B (hAB▸h4);exact(Array.getElem?_eq_some_iff.1 h1).1
theorem Ext.froz{w w':World}(h:Ext w w')(b o:Nat)(hc:(w.cell? ⟨b,o,none⟩).isSome=true):w'.frozen? ⟨b,o,none⟩=w.frozen? ⟨b,o,none⟩:=by
 refine RowKit.Below.frozen h ?_;show b<w.heap.size;rcases Nat.lt_or_ge b w.heap.size with hlt|hge
 ·exact hlt
 ·simp[World.cell?,Array.getElem?_eq_none hge]at hc
structure wpL(P:Program)(ops:Array Oper)(R:World->World->Prop)(Q:Act->World->Prop)(l:List (Bool×Oper))(a:Act)(w:World):Prop where
 out:zbc P ops R Q l a w
theorem zcn{id:Nat}{Q:Exit->Act->World->Prop}{a:Act}{w:World}(pi:List (Bool×Nat)){l:List (Bool×Oper)}
 (hm:P.follows .mixedOrders=true) (hck:zap ops pi=true) (hl:pick ops pi=l) (h:Ext w.drew w.drew->wpL P ops Ext (Q .normal) l a w.drew):(Code.region id ops true).wp P Q a w:=
 zar Ext Ext.refl (fun _ _ _=>Ext.trans) pi hm hck hl (h (Ext.refl _)).out
structure But(S:List Nat)(w w':World):Prop where
 os:w'.os=w.os
 tape:w'.tape=w.tape
 output:w'.output=w.output
 size:w.heap.size<=w'.heap.size
 block: ∀k,k<w.heap.size->k∉S->w'.heap[k]? =w.heap[k]?
theorem But.refl(S:List Nat)(w:World):But S w w:=⟨rfl,rfl,rfl,Nat.le_refl _,fun _ _ _=>rfl⟩
theorem But.trans{S:List Nat}{a b c:World}(h:But S a b)(k:But S b c):But S a c:=
 ⟨k.os.trans h.os,k.tape.trans h.tape,k.output.trans h.output,Nat.le_trans h.size k.size,fun i hi hs=>(k.block i (Nat.lt_of_lt_of_le hi h.size) hs).trans (h.block i hi hs)⟩
theorem But.cell{S:List Nat}{w w':World}(h:But S w w')(b o:Nat)(hb:b∉S)(hc:(w.cell? ⟨b,o,none⟩).isSome=true):w'.cell? ⟨b,o,none⟩=w.cell? ⟨b,o,none⟩:=by
 refine World.cell?_of_block (w:=w) (h.block b ?_ hb);rcases Nat.lt_or_ge b w.heap.size with hlt|hge
 ·exact hlt
 ·simp[World.cell?,Array.getElem?_eq_none hge]at hc
theorem But.alloc{S:List Nat}{a w:World}(h:But S a w)(o:Obj):But S a (w.alloc o):=
 h.trans ⟨rfl,rfl,rfl,by simp,fun k hk _=>RowKit.Below.heap_alloc _ _ _ hk⟩
theorem But.drew{S:List Nat}{a w:World}(h:But S a w):But S a w.drew:=⟨h.os,h.tape,h.output,h.size,h.block⟩
theorem But.drewL{S:List Nat}{a w:World}(h:But S a w):But S a.drew w:=⟨h.os,h.tape,h.output,h.size,h.block⟩
theorem But.setCell{S:List Nat}{a w:World}(h:But S a w){p:Addr}(hp:p.block∈S)(u:Value):But S a (w.setCell p u):=
 h.trans ⟨rfl,rfl,rfl,by simp[World.setCell],fun k _ hk=>RowKit.Below.heap_setCell _ _ _ _ (fun e=>hk (e▸hp))⟩
theorem But.allocL{S:List Nat}{a w:World}(h:But S a w){o:Obj}(hs:a.heap.size∈S)(hz:(a.alloc o).heap.size<=w.heap.size):But S (a.alloc o) w:=
 ⟨h.os,h.tape,h.output,hz,fun k hk hn=>by
   have hne:k≠a.heap.size:=fun e=>hn (e▸hs)
   have hlt:k<a.heap.size:=by simp at hk;omega
   rw[RowKit.Below.heap_alloc _ _ _ hlt];exact h.block k hlt hn⟩
theorem But.setCellL{S:List Nat}{a w:World}(h:But S a w){p:Addr}(hp:p.block∈S){u:Value}:But S (a.setCell p u) w:=
 ⟨h.os,h.tape,h.output,by simpa[World.setCell]using h.size,fun k hk hn=>by
   rw[show(a.setCell p u).heap[k]? =a.heap[k]? from RowKit.Below.heap_setCell a p u k (fun e=>hn (e▸hp))];exact h.block k (by simpa[World.setCell]using hk) hn⟩
theorem But.alloc2{S:List Nat}{a w:World}(h:But S a w){o:Obj}(hz:w.heap.size=a.heap.size):But S (a.alloc o) (w.alloc o):=
 ⟨h.os,h.tape,h.output,by simp;omega,fun k hk hn=>by
   simp at hk;by_cases e:k=a.heap.size
   ·subst e
    have h1:(a.alloc o).heap[a.heap.size]? =some o:=by show(a.heap.push o)[a.heap.size]? =_;simp
    have h2:(w.alloc o).heap[a.heap.size]? =some o:=by show(w.heap.push o)[a.heap.size]? =_;rw[<-hz];simp
    rw[h1,h2]
   ·rw[RowKit.Below.heap_alloc _ _ _ (by omega),RowKit.Below.heap_alloc _ _ _ (by omega)]
    exact h.block k (by omega) hn⟩
theorem Ext.but{w w':World}(h:Ext w w')(S:List Nat):But S w w':=⟨h.os,h.tape,h.output,h.size,fun k hk _=>h.block k hk⟩
theorem But.ext{S:List Nat}{a b c:World}(h:Ext a b)(k:But S b c)(hS: ∀x∈S,a.heap.size<=x):Ext a c:=
 ⟨k.os.trans h.os,k.tape.trans h.tape,k.output.trans h.output,Nat.le_trans h.size k.size,fun i hi=>(k.block i (Nat.lt_of_lt_of_le hi h.size) (fun hm=>by have:=hS i hm;omega)).trans (h.block i hi)⟩
theorem vu(S:List Nat){id:Nat}{Q:Exit->Act->World->Prop}{a:Act}{w:World}(pi:List (Bool×Nat)){l:List (Bool×Oper)}
 (hm:P.follows .mixedOrders=true) (hck:zap ops pi=true) (hl:pick ops pi=l) (h:But S w.drew w.drew->Ext w.drew w.drew->wpL P ops (But S) (Q .normal) l a w.drew):(Code.region id ops true).wp P Q a w:=
 zar (But S) (But.refl S) (fun _ _ _=>But.trans) pi hm hck hl (h (But.refl _ _) (Ext.refl _)).out
section
variable{Q:Act->World->Prop} {a:Act} {w:World} {rest:List (Bool×Oper)} {o:Oper} {S:List Nat}
theorem xA{W:World}(hx:But S W w){v:Value}(hw:Region.wanted o (yielded ops a.tmps)=true)
 (hv: ∀w',(∀b f,b∉S->(W.cell? ⟨b,f,none⟩).isSome=true->w'.cell? ⟨b,f,none⟩=W.cell? ⟨b,f,none⟩) ->(execOp a.eval o).run P w'= .ok (.value v) w')
 (h:wpL P ops (But S) Q rest (a.put o.dst v) w):wpL P ops (But S) Q ((true,o)::rest) a w:=by
 refine⟨?_⟩;simp only[zbc];rw[if_pos hw,if_pos trivial];exact⟨v,fun w' hr=> .inl (hv w' (hx.trans hr).cell),h.out⟩
theorem zH(h:Q a w):wpL P ops R Q [] a w:=⟨h⟩
theorem zle{W:World}(hx:Ext W w){v:Value}(hw:Region.wanted o (yielded ops a.tmps)=true)
 (hv: ∀w',(∀b f,(W.cell? ⟨b,f,none⟩).isSome=true->w'.cell? ⟨b,f,none⟩=W.cell? ⟨b,f,none⟩) ->(execOp a.eval o).run P w'= .ok (.value v) w')
 (h:wpL P ops Ext Q rest (a.put o.dst v) w):wpL P ops Ext Q ((true,o)::rest) a w:=by
 refine⟨?_⟩;simp only[zbc];rw[if_pos hw,if_pos trivial];exact⟨v,fun w' hr=> .inl (hv w' (hx.trans hr).cell),h.out⟩
theorem zlf{st:Bool}(hw:Region.wanted o (yielded ops a.tmps)=false)(h:wpL P ops R Q rest (a.put o.dst undef) w):wpL P ops R Q ((st,o)::rest) a w:=by
 refine⟨?_⟩;simp only[zbc];rw[if_neg (by rw[hw];simp)];exact h.out
theorem jY(hw:Region.wanted o (yielded ops a.tmps)=true)
 (h: ∀K:Act->World->Prop,(∀v w',R w w'->(R w w'->wpL P ops R Q rest (a.put o.dst v) w') ->K (a.put o.dst v) w') ->o.wp P a w K (fun _ _ _=>False)):wpL P ops R Q ((false,o)::rest) a w:=by
 refine⟨?_⟩;simp only[zbc];rw[if_pos hw,if_neg (by simp)];exact h _ fun v w' hr he=>⟨hr,⟨v,rfl⟩,(he hr).out⟩
end
end
end Go.Draw
namespace Go.Draw
open Go.RowKit Go.WideShapes Go.ChangeShapes
section
variable{H:Type} {enc:TypeId×Value->H} {P:Program}
theorem zeh{f:Func}{s:ChangeSpec}{apart fresh handsOn again:Bool}{W W':World}{args:Array Value}{v:Value}{ds gs:List (DataW H)}{before pa pv:List MemPlace}
 (hW:DataW.Whole enc P f.params.toList s.vars apart W args.toList ds gs before)
 (hres: ∀(b:Nat) (sp:Nat->Bool) (hd:Bool),DataW.TrodAll enc P W' b sp hd f.resultTypes.toList (v.resultList f.resultTypes.size) (s.fn H (ds++gs)).results [])
 (hargs: ∀sp:Nat->Bool,(∀p∈before,sp p.block=true) ->DataW.TrodAll enc P W' 0 sp true f.params.toList args.toList (s.fn H (ds++gs)).args pa)
 (hvars: ∀sp:Nat->Bool,(∀p∈before,sp p.block=true) ->DataW.TrodVars enc P W' sp s.vars (s.fn H (ds++gs)).vars pv)
 (hps:before=pa++pv) (hb:Ext W W')
 (hok: ∀(j:Nat) (t:TypeId) (r:Value),f.resultTypes[j]? =some t->(v.resultList f.resultTypes.size)[j]? =some r->Value.okWide P W' .any 0 t r):
 s.post enc P f apart fresh handsOn again W args v W':=by
 have hlt: ∀p∈before,p.block<W.heap.size:=fun p hp=>hW.lt p hp
 have hold: ∀p∈before,(fun b=>decide (b<W.heap.size)) p.block=true:=fun p hp=>by simpa using hlt p hp
 refine⟨ds,gs,before,[],pa,pv,hW,hres _ _ _,hargs _ hold,hvars _ hold,World.keptBut_mono (fun p hp=>⟨hp,?_⟩) (Below.frame hb (· ∈before)),fun _=> ?_⟩
 ·rw[hps,List.mem_append]at hp
  exact Or.inr hp
 ·obtain⟨_,_,_,_,_,hz,hn⟩:=hW
  refine⟨hok,_,_,([]++pa)++pv,⟨[]++pa,pv,trodAll_append (hargs _ (fun _ _=>rfl)) (hres _ _ _),hvars _ (fun _ _=>rfl),rfl,?_,?_⟩,?_⟩
  ·intro b off hp
   have hin:MemPlace.cell b off∈before:=by rw[hps];simpa using hp
   rw[Below.frozen hb (hlt _ hin)];exact hz b off hin
  ·intro ha
   have:=hn ha;rw[hps]at this;simpa using this
  ·intro p hp _
   rw[hps];simpa using hp
end
end Go.Draw
namespace Go.Draw
open Go.RowKit
def Rd(w:World)(A:Option Addr)(n size:Nat)(xs:List Value):Prop:=
 xs.length=n*size∧(0<n-> ∃b o,A=some ⟨b,o,none⟩∧∀j u,xs[j]? =some u->w.cell? ⟨b,o+j,none⟩=some u)
section
variable{w w':World} {A:Option Addr} {n size:Nat} {xs:List Value}
theorem zh{b o:Nat}{u:Value}(h:w.cell? ⟨b,o,none⟩=some u):b<w.heap.size:=by
 rcases Nat.lt_or_ge b w.heap.size with hlt|hge
 ·exact hlt
 ·simp[World.cell?,Array.getElem?_eq_none hge]at h
theorem zp(he:Ext w w'){b o:Nat}{u:Value}(h:w.cell? ⟨b,o,none⟩=some u):w'.cell? ⟨b,o,none⟩=some u:=by
 rw[he.cell b o (by rw[h];rfl)];exact h
theorem zei{S:List Nat}(he:But S w w'){b o:Nat}(hb:b∉S){u:Value}(h:w.cell? ⟨b,o,none⟩=some u):w'.cell? ⟨b,o,none⟩=some u:=by
 rw[he.cell b o hb (by rw[h];rfl)];exact h
def Blk(w:World)(b:Nat)(t:TypeId)(cs:Array Value):Prop:=w.heap[b]? =some (.cells cs t (0,0))
theorem Blk.lt{b:Nat}{t:TypeId}{cs:Array Value}(h:Blk w b t cs):b<w.heap.size:=by
 rcases Nat.lt_or_ge b w.heap.size with hlt|hge
 ·exact hlt
 ·unfold Blk at h;rw[Array.getElem?_eq_none hge]at h;cases h
theorem Blk.cell{b:Nat}{t:TypeId}{cs:Array Value}(h:Blk w b t cs)(i:Nat):w.cell? ⟨b,i,none⟩=cs[i]? :=cell_of_row w b i cs t (0,0) h
theorem Blk.froz{b:Nat}{t:TypeId}{cs:Array Value}(h:Blk w b t cs)(i:Nat):w.frozen? ⟨b,i,none⟩=false:=by
 unfold Blk at h;simp[World.frozen?,h]
theorem Blk.new{b:Nat}{t:TypeId}{cs:Array Value}(h:b=w.heap.size):Blk (w.alloc (.cells cs t)) b t cs:=by subst h;exact heap_alloc_new w _
theorem Blk.alloc{b:Nat}{t:TypeId}{cs:Array Value}(h:Blk w b t cs)(o:Obj):Blk (w.alloc o) b t cs:=(Below.heap_alloc w o b h.lt).trans h
theorem Blk.drew{b:Nat}{t:TypeId}{cs:Array Value}(h:Blk w b t cs):Blk w.drew b t cs:=h
theorem Blk.ext{b:Nat}{t:TypeId}{cs:Array Value}(h:Blk w b t cs)(he:Ext w w'):Blk w' b t cs:=(he.block b h.lt).trans h
theorem Blk.but{S:List Nat}{b:Nat}{t:TypeId}{cs:Array Value}(h:Blk w b t cs)(he:But S w w')(hb:b∉S):Blk w' b t cs:=(he.block b h.lt hb).trans h
theorem Blk.set_{b:Nat}{t:TypeId}{cs:Array Value}(h:Blk w b t cs)(i:Nat)(u:Value):Blk (w.setCell ⟨b,i,none⟩ u) b t (cs.setIfInBounds i u):=by
 unfold Blk at h|-;simp[World.setCell,Array.getElem?_modify,h]
theorem Blk.far{b:Nat}{t:TypeId}{cs:Array Value}(h:Blk w b t cs){p:Addr}(hp:b≠p.block)(u:Value):Blk (w.setCell p u) b t cs:=(Below.heap_setCell w p u b hp).trans h
theorem Blk.ne_{b b':Nat}{t t':TypeId}{cs cs':Array Value}(h:Blk w b t cs)(h':Blk w b' t' cs')(hne:t≠t'):b≠b':=by
 rintro rfl;unfold Blk at h h';rw[h]at h';injection h' with h';injection h' with _ ht;exact hne ht
theorem Rd.nil_(w:World)(A:Option Addr)(size:Nat):Rd w A 0 size []:=⟨by simp,fun h=>absurd h (by omega)⟩
theorem Rd.ext(h:Rd w A n size xs)(he:Ext w w'):Rd w' A n size xs:=
 ⟨h.1,fun hn=>by
   obtain⟨b,o,hA,hc⟩:=h.2 hn;exact⟨b,o,hA,fun j u hu=>zp he (hc j u hu)⟩⟩
theorem Rd.at_(h:Rd w A n 1 xs){k:Nat}(hk:k<n): ∃b o u,A=some ⟨b,o,none⟩∧xs[k]? =some u∧w.cell? ⟨b,o+k,none⟩=some u:=by
 obtain⟨b,o,hA,hc⟩:=h.2 (by omega);have hl:k<xs.length:=by have:=h.1;omega
 exact⟨b,o,xs[k],hA,List.getElem?_eq_getElem hl,hc k _ (List.getElem?_eq_getElem hl)⟩
theorem Rd.lt(h:Rd w A n size xs)(hs:0<size)(hn:0<n): ∃b o,A=some ⟨b,o,none⟩∧b<w.heap.size:=by
 obtain⟨b,o,hA,hc⟩:=h.2 hn;have hl:0<xs.length:=by rw[h.1];exact Nat.mul_pos hn hs
 exact⟨b,o,hA,zh (hc 0 _ (List.getElem?_eq_getElem hl))⟩
theorem zbd(b o j:Nat):(⟨b,o,none⟩:Addr).add j=⟨b,o+j,none⟩:=by
 unfold Addr.add;split
 ·rename_i h;subst h;rfl
 ·rfl
theorem Rd.of_own{base:Nat}{e:TypeId}{c:Nat}(h:w.ownsRow base e size (.slice A n c) n xs):Rd w A n size xs:=by
 refine⟨h.1,fun hn=> ?_⟩;rcases h.2 with⟨_,h0⟩|⟨g,cap,cur,hv,_,hg,hnc,_,hcs,htake⟩
 ·omega
 ·simp only[Value.slice.injEq]at hv
  obtain⟨hA,_,_⟩:=hv;subst hA;refine⟨g,0,rfl,fun j u hu=> ?_⟩;rw[Nat.zero_add,cell_of_row w g j cur e (0,0) hg];rw[<-htake,List.getElem?_take]at hu;split at hu
  ·simpa using hu
  ·cases hu
theorem yD{base:Nat}{e:TypeId}{c:Nat}(h:w.ownsRow base e size (.slice A n c) n xs)(hn:0<n): ∃g,A=some ⟨g,0,none⟩∧base<=g∧g<w.heap.size:=by
 rcases h.2 with⟨_,h0⟩|⟨g,cap,cur,hv,hb,hg,_⟩
 ·omega
 ·simp only[Value.slice.injEq]at hv
  refine⟨g,hv.1,hb,?_⟩;rcases Nat.lt_or_ge g w.heap.size with hlt|hge
  ·exact hlt
  ·rw[Array.getElem?_eq_none hge]at hg;cases hg
theorem zP(w:World)(base:Nat)(e:TypeId)(size:Nat):w.ownsRow base e size (.slice none 0 0) 0 []:=⟨by simp,.inl ⟨rfl,rfl⟩⟩
theorem zm{base:Nat}{e:TypeId}{v:Value}(h:w.ownsRow base e size v n xs)(he:Ext w w'):w'.ownsRow base e size v n xs:=by
 refine⟨h.1,?_⟩;rcases h.2 with h0|⟨g,cap,cur,hv,hb,hg,r⟩
 ·exact .inl h0
 ·refine .inr ⟨g,cap,cur,hv,hb,?_,r⟩
  rw[he.block g ?_]
  ·exact hg
  ·rcases Nat.lt_or_ge g w.heap.size with hlt|hge
   ·exact hlt
   ·rw[Array.getElem?_eq_none hge]at hg;cases hg
theorem zo{base:Nat}{e:TypeId}{v:Value}{S:List Nat}(h:w.ownsRow base e size v n xs)(he:But S w w')(hS: ∀g,v.ownBlock=some g->g∉S):w'.ownsRow base e size v n xs:=by
 refine⟨h.1,?_⟩;rcases h.2 with h0|⟨g,cap,cur,hv,hb,hg,r⟩
 ·exact .inl h0
 ·refine .inr ⟨g,cap,cur,hv,hb,?_,r⟩
  rw[he.block g ?_ (hS g (by rw[hv];rfl))]
  ·exact hg
  ·rcases Nat.lt_or_ge g w.heap.size with hlt|hge
   ·exact hlt
   ·rw[Array.getElem?_eq_none hge]at hg;cases hg
theorem yu{base:Nat}{e:TypeId}{v:Value}(h:w.ownsRow base e size v n xs){p:Addr}(hp:p.block<base)(u:Value):(w.setCell p u).ownsRow base e size v n xs:=ownsRow_setCell_below h hp u
theorem yf{base:Nat}{e:TypeId}{g c:Nat}(h:w.ownsRow base e size (.slice (some ⟨g,0,none⟩) n c) n xs){p:Addr}(hp:g≠p.block)(u:Value):(w.setCell p u).ownsRow base e size (.slice (some ⟨g,0,none⟩) n c) n xs:=
 h.kept (row:=some p.block) ⟨rfl,rfl,rfl,by simp[World.setCell],fun k _ hk=>Below.heap_setCell _ _ _ _ (fun e=>hk (by rw[e]))⟩ (.inr (by simp only[Value.ownBlock];intro e;injection e with e;exact hp e))
theorem yv{base:Nat}{e:TypeId}{g c:Nat}(h:w.ownsRow base e size (.slice (some ⟨g,0,none⟩) n c) n xs)(j:Nat)(u:Value):(w.setCell ⟨g,j,none⟩ u).ownsRow base e size (.slice (some ⟨g,0,none⟩) n c) n (xs.set j u):=(h.stored j u).1
theorem z8{base:Nat}{e:TypeId}{v:Value}(h:w.ownsRow base e size v n xs)(o:Obj):(w.alloc o).ownsRow base e size v n xs:=h.alloc o
theorem y5{base:Nat}{e:TypeId}{v:Value}(h:w.ownsRow base e size v n xs):w.drew.ownsRow base e size v n xs:=h
theorem zu{base base':Nat}{e:TypeId}{v:Value}(h:w.ownsRow base e size v n xs)(hb:base'<=base):w.ownsRow base' e size v n xs:=by
 refine⟨h.1,?_⟩;rcases h.2 with h0|⟨g,cap,cur,hv,hbg,r⟩
 ·exact .inl h0
 ·exact .inr ⟨g,cap,cur,hv,by omega,r⟩
theorem zz{base:Nat}{e:TypeId}{g c:Nat}(h:w.ownsRow base e size (.slice (some ⟨g,0,none⟩) n c) n xs):(∀j u,xs[j]? =some u->w.cell? ⟨g,j,none⟩=some u)∧∀j,w.frozen? ⟨g,j,none⟩=false:=
 ⟨fun j u hu=>by
   have hj:j<n*size:=by
    have:=(List.getElem?_eq_some_iff.1 hu).1;rw[h.1]at this;exact this
   rw[h.cellAt j hj];exact hu,h.frozenAt⟩
theorem zaa{base base':Nat}{e e':TypeId}{size' n' c c' g g':Nat}{xs':List Value}(h:w.ownsRow base e size (.slice (some ⟨g,0,none⟩) n c) n xs)(h':w.ownsRow base' e' size' (.slice (some ⟨g',0,none⟩) n' c') n' xs')(hne:e≠e'):g≠g':=by
 rintro rfl;rcases h.2 with⟨h0,_⟩|⟨k,cap,cur,hv,_,hg,_⟩
 ·simp at h0
 ·rcases h'.2 with⟨h0,_⟩|⟨k',cap',cur',hv',_,hg',_⟩
  ·simp at h0
  ·simp only[Value.slice.injEq,Option.some.injEq,Addr.mk.injEq,and_true,true_and]at hv hv'
   obtain⟨rfl,_⟩:=hv;obtain⟨rfl,_⟩:=hv';rw[hg]at hg';injection hg' with hg';injection hg' with _ ht;exact hne ht
theorem zds{v:Value}(h:w.grownBy w' v.ownBlock)(hv:v= .slice none 0 0):Ext w w':=by
 subst hv;exact⟨h.os,h.tape,h.output,h.size,fun k hk=>h.block k hk (by simp[Value.ownBlock])⟩
theorem yy{a:World}{base:Nat}{e:TypeId}{v:Value}(h:Ext a w)(hg:w.grownBy w' v.ownBlock)(hown:w.ownsRow base e size v n xs)(hb:a.heap.size<=base):Ext a w':=
 Below.grown h hg h.size fun k hk=>by
  have:=(World.ownsRow.lt hown k hk).1;omega
end
section
variable{P:Program} {w:World}
theorem zco(base:Nat)(t ty e:TypeId)(i:TypeInfo)(z:Value)(size bytes:Nat)(ht:P.underlying t=some (.slice e))(hi:P.info? e=some i)(hz:i.zero=some z)
 (hsize:i.size=size) (hby:i.bytes=bytes) (hzs:z.cells.size=size) (hsz:0<size)
 (v:Value) (n:Nat) (xs:List Value) (hown:w.ownsRow base e size v n xs)
 (A:Option Addr) (m c:Nat) (news:List Value) (hr:Rd w A m size news) (h1: ∀u∈news,u.oneCell'=true)
 (h63:n+m<=maxLen) (hbytes:(n+m)*bytes<=140737488355328) (hbase:base<=w.heap.size):
 ∃v' w',(Builtin.append_ #[t,t] ty #[v,.slice A m c]).run P w= .ok v' w'∧w'.ownsRow base e size v' (n+m) (xs++news)∧w.grownBy w' v.ownBlock∧
  (v'.ownBlock=v.ownBlock∨v'.ownBlock=some w.heap.size):=by
 cases A with
 |some ad=>
  have hcells: ∀j u,news[j]? =some u->w.cell? (ad.add j)=some u:=by
   intro j u hu;rcases Nat.eq_zero_or_pos m with h0|h0
   ·have hn:news= []:=List.eq_nil_of_length_eq_zero (by rw[hr.1,h0];simp)
    subst hn;simp at hu
   ·obtain⟨b,o,hA,hc⟩:=hr.2 h0
    injection hA with hA;subst hA;rw[zbd];exact hc j u hu
  obtain⟨v',w',hrun,h2,h3,_,h5⟩:=run_append_own_at (P:=P) w base t ty e i z size bytes ht hi hz hsize hby hzs hsz v n xs hown ad m c news hr.1 hcells h1 h63 hbytes hbase;exact⟨v',w',hrun,h2,h3,h5⟩
 |none=>
  have hm:m=0:=by
   rcases Nat.eq_zero_or_pos m with h0|h0
   ·exact h0
   ·obtain⟨b,o,hA,_⟩:=hr.2 h0
    cases hA
  subst hm;have hn:news= []:=List.eq_nil_of_length_eq_zero (by rw[hr.1];simp);subst hn
  have hrun:(Builtin.append_ #[t,t] ty #[v,.slice none 0 c]).run P w= .ok v w:=by
   rcases hown.2 with⟨rfl,rfl⟩|⟨g,cap,cur,rfl,_,_,hnc,_⟩
   ·simp[Builtin.append_,run_underlying ht,sizeOf,typeInfo,hi,Builtin.lenOf,Builtin.firstCells]
   ·simp[Builtin.append_,run_underlying ht,sizeOf,typeInfo,hi,Builtin.lenOf,Builtin.firstCells,hnc,storeCells]
  exact⟨v,w,hrun,by simpa using hown,World.grownBy.refl w _,.inl rfl⟩
structure Elem(P:Program)(t e:TypeId)(z:Value)(size bytes:Nat):Prop where
 ht:P.underlying t=some (.slice e)
 ex:(P.info? e).map (fun i=>(i.zero,i.size,i.bytes))=some (some z,size,bytes)
 hzs:z.cells.size=size
 hsz:0<size
theorem zX{o:Oper}{a:Act}{K:Act->World->Prop}{Q:Exit->Act->World->Prop}{t e:TypeId}{z:Value}{size bytes:Nat}(E:Elem P t e z size bytes)(s x:Operand)
 (ho:o.op= .call {callee:= .builtin .append,args:= #[s,x],argTypes:= #[t,t]})
 (base:Nat) (v:Value) (n:Nat) (xs:List Value) (hs:a.eval s=v) (hown:w.ownsRow base e size v n xs)
 (A:Option Addr) (m c:Nat) (news:List Value) (hx:a.eval x= .slice A m c) (hr:Rd w A m size news) (h1: ∀u∈news,u.oneCell'=true)
 (hbd:n+m<=1000000) (hby:bytes<=1000) (hbase:base<=w.heap.size)
 (h: ∀A' c' w',w'.ownsRow base e size (.slice A' (n+m) c') (n+m) (xs++news) ->w.grownBy w' v.ownBlock->((Value.slice A' (n+m) c').ownBlock=v.ownBlock∨(Value.slice A' (n+m) c').ownBlock=some w.heap.size) ->K (a.put o.dst (.slice A' (n+m) c')) w'):o.wp P a w K Q:=by
 obtain⟨i,hi,hz,hsize,hbytes⟩:=info_parts E.ex;have hmb:(n+m)*bytes<=1000000*1000:=Nat.mul_le_mul hbd hby;obtain⟨v',w',hrun,h2,h3,h4⟩:=zco (P:=P) base t o.type e i z size bytes E.ht hi hz hsize hbytes E.hzs E.hsz v n xs hown A m c news hr h1 (by simp only[maxLen];omega) (by omega) hbase;unfold Oper.wp execOp;simp only[ho,resolve,invoke,builtin,Sem.run_bind,Sem.run_pure,Result.andThen_ok,List.map_toArray,List.map_cons,List.map_nil,hs,hx,hrun]
 have hform: ∃A' c',v'= .slice A' (n+m) c':=by
  rcases h2.2 with⟨h0,hz0⟩|⟨g,cap,cur,hv,_⟩
  ·exact⟨none,0,by rw[h0,hz0]⟩
  ·exact⟨_,cap,hv⟩
 obtain⟨A',c',rfl⟩:=hform;exact h A' c' w' h2 h3 h4
theorem yL{o:Oper}{a:Act}{K:Act->World->Prop}{Q:Exit->Act->World->Prop}{t e:TypeId}{z:Value}{size bytes:Nat}(E:Elem P t e z size bytes)(s x:Operand)
 (ho:o.op= .call {callee:= .builtin .append,args:= #[s,x],argTypes:= #[t,t]}) (hs:a.eval s= .slice none 0 0)
 (base:Nat) (A:Option Addr) (m c:Nat) (news:List Value) (hx:a.eval x= .slice A m c) (hr:Rd w A m size news) (h1: ∀u∈news,u.oneCell'=true)
 (hbd:m<=1000000) (hby:bytes<=1000) (hbase:base<=w.heap.size)
 (h: ∀A' c' w',w'.ownsRow base e size (.slice A' m c') m news->Ext w w'->K (a.put o.dst (.slice A' m c')) w'):o.wp P a w K Q:=by
 refine zX E s x ho base _ 0 [] hs (zP w base e size) A m c news hx hr h1 (by omega) hby hbase ?_;intro A' c' w' h2 h3 _;simp only[Nat.zero_add,List.nil_append]at h2|-;exact h A' c' w' h2 (zds h3 rfl)
section
variable{ops:Array Oper} {rest:List Oper} {o:Oper} {a:Act} {Q:Exit->Act->World->Prop}
theorem zJ{t e:TypeId}{z:Value}{size bytes:Nat}(hgd:o.guard=none)(E:Elem P t e z size bytes)(s x:Operand)
 (ho:o.op= .call {callee:= .builtin .append,args:= #[s,x],argTypes:= #[t,t]})
 (base:Nat) (v:Value) (n:Nat) (xs:List Value) (hs:a.eval s=v) (hown:w.ownsRow base e size v n xs)
 (A:Option Addr) (m c:Nat) (news:List Value) (hx:a.eval x= .slice A m c) (hr:Rd w A m size news) (h1: ∀u∈news,u.oneCell'=true)
 (hbd:n+m<=1000000) (hby:bytes<=1000) (hbase:base<=w.heap.size)
 (h: ∀A' c' w',w'.ownsRow base e size (.slice A' (n+m) c') (n+m) (xs++news) ->w.grownBy w' v.ownBlock->((Value.slice A' (n+m) c').ownBlock=v.ownBlock∨(Value.slice A' (n+m) c').ownBlock=some w.heap.size) ->wpList P ops Q rest (a.put o.dst (.slice A' (n+m) c')) w'):
 wpList P ops Q (o::rest) a w:=
 wpList_plain hgd fun _ hK=>zX E s x ho base v n xs hs hown A m c news hx hr h1 hbd hby hbase fun A' c' w' h2 h3 h4=>hK _ _ (h A' c' w' h2 h3 h4)
theorem y6{t e:TypeId}{z:Value}{size bytes:Nat}(hgd:o.guard=none)(E:Elem P t e z size bytes)(s x:Operand)
 (ho:o.op= .call {callee:= .builtin .append,args:= #[s,x],argTypes:= #[t,t]}) (hs:a.eval s= .slice none 0 0)
 (base:Nat) (A:Option Addr) (m c:Nat) (news:List Value) (hx:a.eval x= .slice A m c) (hr:Rd w A m size news) (h1: ∀u∈news,u.oneCell'=true)
 (hbd:m<=1000000) (hby:bytes<=1000) (hbase:base<=w.heap.size)
 (h: ∀A' c' w',w'.ownsRow base e size (.slice A' m c') m news->Ext w w'->wpList P ops Q rest (a.put o.dst (.slice A' m c')) w'):wpList P ops Q (o::rest) a w:=
 wpList_plain hgd fun _ hK=>yL E s x ho hs base A m c news hx hr h1 hbd hby hbase fun A' c' w' h2 h3=>hK _ _ (h A' c' w' h2 h3)
end
end
theorem zok{v n:Int}(h1:1<=n)(h2:n<=9223372036854775807)(h:v.tmod n<0):wrap64 (v.tmod n+n)=v%n:=by
 have hb:0<=v%n:=Int.emod_nonneg _ (by omega);have hl:v%n<n:=Int.emod_lt_of_pos _ (by omega)
 have he:v%n=v.tmod n+n:=by
  have h4:=Int.tmod_eq_emod (a:=v) (b:=n);rw[h4]at h;split at h
  ·omega
  ·rename_i hc;rw[h4,if_neg hc];have:(n.natAbs:Int)=n:=by omega
   omega
 rw[<-he];unfold wrap64;omega
theorem zol{v n:Int}(h1:1<=n)(h:0<=v.tmod n):v.tmod n=v%n:=by
 have hl:v%n<n:=Int.emod_lt_of_pos _ (by omega);have h4:=Int.tmod_eq_emod (a:=v) (b:=n);rw[h4]at h|-;split at h
 ·rename_i hc;rw[if_pos hc];omega
 ·have:(n.natAbs:Int)=n:=by omega
  omega
theorem js{P:Program}{t e:TypeId}{z:Value}{bytes:Nat}(E:Elem P t e z 1 bytes)(hz1:z.cells= #[z])(n:Nat)(hn:n<=1000000)(hby:bytes<=1000)(w:World):
 (Instr.makeSlice t (.int .i64 (n:Int)) (.int .i64 (n:Int))).run P w= .ok (.slice (some ⟨w.heap.size,0,none⟩) n n) (w.alloc (.cells (List.replicate n z).toArray e)):=by
 obtain⟨i,hi,hz,hsize,hbytes⟩:=info_parts E.ex;have hmb:i.bytes*n<=1000*1000000:=Nat.mul_le_mul (by omega) hn
 have hb':(i.bytes:Int)*(n:Int)<=281474976710656:=by
  have h:((i.bytes*n:Nat):Int)<=281474976710656:=by omega
  rwa[Int.natCast_mul]at h
 have hr:=run_make (P:=P) w t e i z E.ht hi hz .i64 .i64 n n (by omega) (Int.le_refl _) hb' (by omega);simp only[Int.toNat_natCast,hsize,Nat.mul_one,hz1]at hr;rw[hr];congr 4;apply Array.ext';rw[toList_madeCells_one]
theorem qJ{base b:Nat}{w:World}{cs:List Value}{e:TypeId}{size n:Nat}(hbe:b=w.heap.size)(hb:base<=w.heap.size)(hm:n<=1000000)(hs:cs.length=n*size):
 (w.alloc (.cells cs.toArray e)).ownsRow base e size (.slice (some ⟨b,0,none⟩) n n) n cs:=by
 subst hbe;have:=World.ownsRow_lit (base:=base) (e:=e) (size:=size) w cs.toArray n hb (by simp only[maxLen];omega) (by simpa using hs);simpa using this
theorem xm(w:World)(x:Value)(t:TypeId):Rd (w.alloc (.cells #[x] t)) (some ⟨w.heap.size,0,none⟩) 1 1 [x]:=by
 refine⟨rfl,fun _=>⟨w.heap.size,0,rfl,fun j u hu=> ?_⟩⟩;have:=cell_one_new w x t j u hu;rw[zbd]at this;exact this
theorem yF(w:World)(cs:List Value)(t:TypeId)(n size:Nat)(h:cs.length=n*size):Rd (w.alloc (.cells cs.toArray t)) (some ⟨w.heap.size,0,none⟩) n size cs:=
 ⟨h,fun _=>⟨w.heap.size,0,rfl,fun j u hu=>by
   rw[cell_of_row _ w.heap.size (0+j) cs.toArray t (0,0) (heap_alloc_new w _)];simpa using hu⟩⟩
end Go.Draw
namespace Go.Draw
open Go.RowKit Go.WideShapes Go.ChangeShapes Go.ChangeAt
section
variable{H:Type} {enc:TypeId×Value->H} {P:Program} {W W':World}
theorem jH(hl:laidOutB P=true)(he:Ext W W')(sp:Nat->Bool): ∀(ts:List TypeId) (vs:List Value) (ds:List (DataW H)) (ps:List MemPlace),(∀t∈ts,P.readableRec t=true∧t<P.types.size) ->
 DataW.TrodAll enc P W 0 (fun _=>true) true ts vs ds ps->(∀x∈ps,x.block<W.heap.size) ->(∀x∈ps,sp x.block=true) ->DataW.TrodAll enc P W' 0 sp true ts vs ds ps
 | [],vs,ds,ps,_,h,_,_=>by
   obtain⟨rfl,rfl,rfl⟩:=trodAll_nil h;exact trodAll_mk0
 |t::ts,vs,ds,ps,ht,h,hlt,hsp=>by
  obtain⟨v,vs',d,ds',p,q,rfl,rfl,rfl,h0,r⟩:=trodAll_cons h;obtain⟨h1,h2⟩:=ht t (by simp)
  exact trodAll_cons_mk (WideElems.Trod_stays hl h1 h2 h0 (fun x hx=>Below.same he (hlt x (by simp[hx]))) (fun x hx=>hsp x (by simp[hx])))
   (jH hl he sp ts vs' ds' q (fun t' h'=>ht t' (by simp[h'])) r (fun x hx=>hlt x (by simp[hx])) (fun x hx=>hsp x (by simp[hx])))
theorem law_post{f:Func}{s:ChangeSpec}{apart fresh handsOn again:Bool}{args:Array Value}{ds:List (DataW H)}{p:List MemPlace}(hl:laidOutB P=true)
 (hW:DataW.Whole enc P f.params.toList s.vars apart W args.toList ds [] (p++ [])) (hA:DataW.TrodAll enc P W 0 (fun _=>true) true f.params.toList args.toList ds p)
 (hts: ∀t∈f.params.toList,P.readableRec t=true∧t<P.types.size) (hv:s.vars= []) (hr:(s.fn H (ds++ [])).results= [.lit (.bool true)]) (ha:(s.fn H (ds++ [])).args=ds) (hgv:(s.fn H (ds++ [])).vars= [])
 {tb:TypeId} (hb:P.underlying tb=some .bool) (hres:f.resultTypes= #[tb]) (he:Ext W W'):s.post enc P f apart fresh handsOn again W args (.bool true) W':=by
 have hlt: ∀x∈p,x.block<W.heap.size:=fun x hx=>hW.lt x (by simp[hx])
 refine zeh (pa:=p) (pv:= []) hW (fun b sp hd=> ?_) (fun sp hsp=> ?_) (fun sp hsp=> ?_) rfl he ?_
 ·rw[hr,hres]
  exact trodAll_cons_mk (shut_bool hb true) trodAll_mk0
 ·rw[ha]
  exact jH hl he sp _ _ _ _ hts hA hlt (fun x hx=>hsp x (by simp[hx]))
 ·rw[hv,hgv]
  rfl
 ·intro j t r hj hrj
  rw[hres]at hj hrj
  match j,hj with
  |0,hj=>
   simp at hj;subst hj;simp[Value.resultList]at hrj;subst hrj;exact okWide_bool_mk hb true
end
theorem zej{w:World}{a:Addr}{n:Nat}{xs:List Value}(hn:xs.length=n)(h: ∀i u,xs[i]? =some u->w.cell? (a.add i)=some u):Rd w (some a) n 1 xs:=by
 refine⟨by omega,fun h0=> ?_⟩;have hx:xs[0]? =some (xs[0]'(by omega)):=List.getElem?_eq_getElem (by omega);have h1:=h 0 _ hx
 have hs:a.spot=none:=by
  simp only[Addr.add,if_true,World.cell?]at h1;cases hsp:a.spot with
  |none=>rfl
  |some s=>
   rw[hsp]at h1;split at h1<;>simp at h1
 obtain⟨b,o,sp⟩:=a;simp only at hs;subst hs;exact⟨b,o,rfl,fun j u hu=>by have:=h j u hu;rwa[zbd]at this⟩
end Go.Draw
namespace Go.Draw
inductive Tree where
 |done
 |take (i:Nat) (t:Tree)
 |alt (i:Nat) (t more:Tree)
 |none
def zie(ops:Array Oper)(c:List Nat):List Nat:=
 (List.range ops.size).filter fun i=> !c.contains i&&((ops[i]?).map fun o=>(yK o).all c.contains).getD false
def zom(ops:Array Oper)(c:List Nat)(i:Nat):Bool:=
 match ops[i]? with
 |some o=> !y1 o.op&&(yK o).all c.contains&& !c.contains i
 |none=>false
def yO(ops:Array Oper)(c seen:List Nat):Tree->Bool
 | .done=>(List.range ops.size).all c.contains
 | .take i t=>seen.isEmpty&&zom ops c i&&yO ops (i::c) [] t
 | .alt i t more=>zom ops c i&&yO ops (i::c) [] t&&yO ops c (i::seen) more
 | .none=> !seen.isEmpty&&(zie ops c).all seen.contains
def qE(P:Program)(ops:Array Oper)(R:World->World->Prop)(Q:Act->World->Prop):Tree->Act->World->Prop
 | .done,a,w=>Q a w
 | .take i t,a,w=>
   match ops[i]? with
   |none=>False
   |some o=>
    if Region.wanted o (yielded ops a.tmps)=true then∃v,(∀w',R w w'->zld P o a v w')∧qE P ops R Q t (a.put o.dst v) w
    else qE P ops R Q t (a.put o.dst undef) w
 | .alt i t more,a,w=>
   (match ops[i]? with
   |none=>False
   |some o=>
    if Region.wanted o (yielded ops a.tmps)=true then o.wp P a w (fun a' w'=>R w w'∧(∃v,a'=a.put o.dst v)∧qE P ops R Q t a' w') (fun _ _ _=>False)
    else qE P ops R Q t (a.put o.dst undef) w)∧qE P ops R Q more a w
 | .none,_,_=>True
section
variable{P:Program} {ops:Array Oper} {R:World->World->Prop}
theorem za3{c:List Nat}{i:Nat}(h:zom ops c i=true): ∃o,ops[i]? =some o∧y1 o.op=false∧(∀j∈yK o,j∈c)∧i∉c:=by
 simp only[zom]at h;cases ho:ops[i]? with
 |none=>rw[ho]at h;cases h
 |some o=>
  rw[ho]at h;simp only[Bool.and_eq_true,Bool.not_eq_true',List.all_eq_true,List.contains_eq_mem,decide_eq_true_eq,decide_eq_false_iff_not]at h;exact⟨o,rfl,h.1.1,h.1.2,h.2⟩
theorem zcq{c:List Nat}{i:Nat}{o:Oper}(ho:ops[i]? =some o)(hd: ∀j∈yK o,j∈c)(hD:jJ ops (· ∈c)):jJ ops (· ∈i::c):=by
 intro k x hx hk j hj;rcases List.mem_cons.1 hk with hk|hk
 ·subst hk
  rw[ho]at hx;injection hx with hx;subst hx;exact List.mem_cons_of_mem _ (hd j hj)
 ·exact List.mem_cons_of_mem _ (hD k x hx hk j hj)
structure Row(ops:Array Oper)(cl:List (List Nat))(M c:List Nat):Prop where
 pair:M.Pairwise (Rel ops cl)
 out: ∀i∈M,i∉c
 down:jJ ops (· ∈M.reverse++c)
 sel: ∀i∈M,∃x,ops[i]? =some x∧y1 x.op=false∧i∉yK x
theorem zlg{cl:List (List Nat)}(hcl:zgu ops cl=true){Q:Act->World->Prop}: ∀(t:Tree) (c:List Nat) (a:Act) (w:World),jJ ops (· ∈c) ->yO ops c [] t=true->qE P ops R Q t a w->
 ∃(M:List (Nat×Value)) (t':Tree),xT P ops R M a w∧qE P ops R Q t' (puts ops M a) w∧yO ops ((M.map (·.1)).reverse++c) [] t'=true∧(∀i u,t'≠ .take i u)∧Row ops cl (M.map (·.1)) c
 | .done,c,a,w,hD,hc,h=>⟨[],.done,trivial,h,hc,(fun _ _ e=>by cases e),⟨by simp,by simp,by simpa using hD,by simp⟩⟩
 | .none,c,a,w,hD,hc,h=>⟨[],.none,trivial,h,hc,(fun _ _ e=>by cases e),⟨by simp,by simp,by simpa using hD,by simp⟩⟩
 | .alt i t more,c,a,w,hD,hc,h=>⟨[],.alt i t more,trivial,h,hc,(fun _ _ e=>by cases e),⟨by simp,by simp,by simpa using hD,by simp⟩⟩
 | .take i t,c,a,w,hD,hc,h=>by
   simp only[yO,Bool.and_eq_true]at hc;obtain⟨⟨_,hok⟩,hc'⟩:=hc;obtain⟨o,ho,hs,hd,hn⟩:=za3 hok;simp only[qE,ho]at h
   have key: ∃v,Yl P ops R o v a w∧qE P ops R Q t (a.put o.dst v) w:=by
    by_cases hw:Region.wanted o (yielded ops a.tmps)=true
    ·rw[if_pos hw]at h
     obtain⟨v,hv,hr⟩:=h;exact⟨v,.inl ⟨hw,hv⟩,hr⟩
    ·rw[if_neg hw]at h
     exact⟨undef,.inr ⟨by simpa using hw,rfl⟩,h⟩
   obtain⟨v,hy,hr⟩:=key;obtain⟨M,t',h1,h2,h3,h4,h5⟩:=zlg hcl t (i::c) (a.put o.dst v) w (zcq ho hd hD) hc' hr;refine⟨(i,v)::M,t',⟨o,ho,hy,h1⟩,by simpa[puts,ho]using h2,by simpa using h3,h4,⟨?_,?_,?_,?_⟩⟩
   ·simp only[List.map_cons,List.pairwise_cons]
    refine⟨fun q hq=> ?_,h5.pair⟩;have h6:=h5.out q hq;simp only[List.mem_cons,not_or]at h6;refine⟨fun hc=>h6.2 (j3 hcl hD i i o (Nat.le_refl _) ho hd q hc),h6.1,fun x hx hc=> ?_⟩;rw[ho]at hx;injection hx with hx;subst hx;exact h6.2 (hd q hc)
   ·intro j hj
    simp only[List.map_cons,List.mem_cons]at hj;rcases hj with rfl|hj
    ·exact hn
    ·exact fun hm=>h5.out j hj (by simp[hm])
   ·simpa using h5.down
   ·intro j hj
    simp only[List.map_cons,List.mem_cons]at hj;rcases hj with rfl|hj
    ·exact⟨o,ho,hs,fun hc=>hn (hd _ hc)⟩
    ·exact h5.sel j hj
theorem zrx{Q:Act->World->Prop}{i:Nat}{o:Oper}(ho:ops[i]? =some o){c:List Nat}(hd: ∀j∈yK o,j∈c)(hn:i∉c): ∀(t:Tree) (seen:List Nat) (a:Act) (w:World),
 (seen= [] -> ∀i u,t≠ .take i u) ->i∉seen->yO ops c seen t=true->qE P ops R Q t a w->
 ∃t',yO ops (i::c) [] t'=true∧y1 o.op=false∧
  (if Region.wanted o (yielded ops a.tmps)=true then o.wp P a w (fun a' w'=>R w w'∧(∃v,a'=a.put o.dst v)∧qE P ops R Q t' a' w') (fun _ _ _=>False)
  else qE P ops R Q t' (a.put o.dst undef) w)
 | .done,seen,a,w,hk,hs,hc,h=>by
   exfalso;simp only[yO,List.all_eq_true,List.mem_range,List.contains_eq_mem,decide_eq_true_eq]at hc;exact hn (hc i (Array.getElem?_eq_some_iff.1 ho).1)
 | .none,seen,a,w,hk,hs,hc,h=>by
   exfalso;simp only[yO,Bool.and_eq_true,List.all_eq_true,List.contains_eq_mem,decide_eq_true_eq]at hc;refine hs (hc.2 i ?_);simp only[zie,List.mem_filter,List.mem_range,ho,Option.map_some,Option.getD_some,Bool.and_eq_true,Bool.not_eq_true',List.all_eq_true,List.contains_eq_mem,decide_eq_true_eq,decide_eq_false_iff_not];exact⟨(Array.getElem?_eq_some_iff.1 ho).1,hn,hd⟩
 | .take j t,seen,a,w,hk,hs,hc,h=>by
   exfalso;simp only[yO,Bool.and_eq_true,List.isEmpty_iff]at hc;exact hk hc.1.1 j t rfl
 | .alt j t more,seen,a,w,hk,hs,hc,h=>by
   simp only[yO,Bool.and_eq_true]at hc;obtain⟨⟨h1,h2⟩,h3⟩:=hc;simp only[qE]at h;by_cases e:i=j
   ·subst e
    obtain⟨o',ho',hs',_⟩:=za3 h1;rw[ho]at ho';injection ho' with ho';subst ho';rw[ho]at h;exact⟨t,h2,hs',h.1⟩
   ·exact zrx ho hd hn more (j::seen) a w (fun e=>by cases e) (by simp[e,hs]) h3 h.2
theorem zek{α:Type}{p q:α->Bool}: ∀{l:List α} {i:α},(∀x∈l,p x=true->q x=true) ->i∈l->p i=false->q i=true->l.countP p<l.countP q
 | [],_,_,hi,_,_=>by simp at hi
 |x::l,i,h,hi,hp,hq=>by
  have hle:l.countP p<=l.countP q:=List.countP_mono_left (fun y hy=>h y (List.mem_cons_of_mem _ hy));rcases List.mem_cons.1 hi with rfl|hi
  ·rw[List.countP_cons_of_neg (by simp[hp]),List.countP_cons_of_pos hq];omega
  ·have ih:=zek (fun y hy=>h y (List.mem_cons_of_mem _ hy)) hi hp hq
   by_cases hx:p x=true
   ·rw[List.countP_cons_of_pos hx,List.countP_cons_of_pos (h x (by simp) hx)];omega
   ·rw[List.countP_cons_of_neg hx]
    by_cases hy:q x=true
    ·rw[List.countP_cons_of_pos hy];omega
    ·rw[List.countP_cons_of_neg hy];omega
theorem zsf{Q:Exit->Act->World->Prop}{cl:List (List Nat)}(hr: ∀w,R w w)(ht: ∀a b c,R a b->R b c->R a c)(hcl:zgu ops cl=true)(htm:zba ops cl=true):
 ∀(fuel:Nat) (listed:Array Bool) (L:List (Nat×Value)) (c:List Nat) (t:Tree) (a:Act) (w:World),
  (∀i,i<ops.size->(listed.getD i true=true↔i∈c∧i∉L.map (·.1))) ->listed.size=ops.size->jJ ops (fun j=>listed.getD j false=true) ->jJ ops (· ∈c) ->(∀i∈c,i<ops.size) ->
  (L.map (·.1)).Pairwise (Rel ops cl) ->(∀i∈L.map (·.1),i∈c∧∃x,ops[i]? =some x∧y1 x.op=false∧i∉yK x) ->
  yO ops c [] t=true->(∀i u,t≠ .take i u) ->(List.range ops.size).countP (fun i=> !listed.getD i true)<=fuel->
  xT P ops R L a w->qE P ops R (Q .normal) t (puts ops L a) w->wpAny P .any ops Q fuel listed a w:=by
 intro fuel;induction fuel with
 |zero=>
  intro listed L c t a w hlist hls hDn hDc hcs hpl hLs hck htk hcount hp he
  have hall: ∀i,i<ops.size->listed.getD i true=true:=by
   intro i hi;have:=List.countP_eq_zero.1 (Nat.le_zero.1 hcount) i (by simpa using hi);simpa using this
  have hL:L= []:=by
   cases L with
   |nil=>rfl
   |cons x L=>
    exfalso;obtain⟨h1,_⟩:=hLs x.1 (by simp);exact((hlist x.1 (hcs _ h1)).1 (hall _ (hcs _ h1))).2 (by simp)
  subst hL;refine⟨?_,?_⟩
  ·simp only[Region.ready,List.filter_eq_nil_iff,List.mem_range]
   intro i hi;simp only[hall i hi,Bool.not_true,Bool.false_and,Bool.false_eq_true,not_false_eq_true]
  ·cases t with
   |done=>exact he
   |take i u=>exact absurd rfl (htk i u)
   |none=>simp[yO]at hck
   |alt i t more=>
    exfalso;simp only[yO,Bool.and_eq_true]at hck;obtain⟨o,ho,_,_,hn⟩:=za3 hck.1.1;have hi:=(Array.getElem?_eq_some_iff.1 ho).1;exact hn ((hlist i hi).1 (hall i hi)).1
 |succ fuel ih=>
  intro listed L c t a w hlist hls hDn hDc hcs hpl hLs hck htk hcount hp he
  have hmem_ready: ∀i,i∈Region.ready .any ops listed↔i<ops.size∧listed.getD i true=false∧∀o,ops[i]? =some o-> ∀j∈yK o,listed.getD j false=true:=by
   intro i;simp only[Region.ready,List.mem_filter,List.mem_range,Bool.and_eq_true,Bool.not_eq_true'];constructor
   ·rintro⟨h1,h2,h3⟩
    refine⟨h1,h2,fun o ho j hj=> ?_⟩;simp only[ho,Option.map_some,Option.getD_some,Array.all_eq_true',Bool.or_eq_true,Bool.not_eq_true']at h3;simp only[yK,List.mem_map,List.mem_filter]at hj;obtain⟨e,⟨he1,he2⟩,rfl⟩:=hj;have:=h3 e (by simpa using he1);rw[he2]at this;simpa using this
   ·rintro⟨h1,h2,h3⟩
    refine⟨h1,h2,?_⟩;have ho:ops[i]? =some ops[i]:=by simp[h1]
    simp only[ho,Option.map_some,Option.getD_some,Array.all_eq_true',Bool.or_eq_true,Bool.not_eq_true'];intro e he;cases hb:Region.binds .any e with
    |false=>exact .inl rfl
    |true=>exact .inr (h3 _ ho e.on (by simp only[yK,List.mem_map,List.mem_filter];exact⟨e,⟨by simpa using he,hb⟩,rfl⟩))
  have hget: ∀j,j<ops.size->listed.getD j false=listed.getD j true:=by
   intro j hj;simp[Array.getD,hls,hj]
  have hlc: ∀j,listed.getD j false=true->j<ops.size∧j∈c∧j∉L.map (·.1):=by
   intro j hj
   have hjs:j<ops.size:=by
    rcases Nat.lt_or_ge j ops.size with h|h
    ·exact h
    ·have h': ¬j<listed.size:=by omega
     simp[Array.getD,h']at hj
   rw[hget j hjs]at hj;exact⟨hjs,(hlist j hjs).1 hj⟩
  refine⟨fun hnone=> ?_,?_⟩
  ·cases L with
   |nil=>
    cases t with
    |done=>exact he
    |take i u=>exact absurd rfl (htk i u)
    |none=>simp[yO]at hck
    |alt i t more=>
     exfalso;simp only[yO,Bool.and_eq_true]at hck;obtain⟨o,ho,_,hd,hn⟩:=za3 hck.1.1;have hi:=(Array.getElem?_eq_some_iff.1 ho).1
     have:i∈Region.ready .any ops listed:=(hmem_ready i).2 ⟨hi,by
      cases hg:listed.getD i true with
      |false=>rfl
      |true=>exact absurd ((hlist i hi).1 hg).1 hn,fun o' ho' j hj=>by
      rw[ho]at ho';injection ho' with ho';subst ho';have hjc:=hd j hj;rw[hget j (hcs j hjc)];exact(hlist j (hcs j hjc)).2 ⟨hjc,by simp⟩⟩
     rw[hnone]at this;simp at this
   |cons x L=>
    exfalso;obtain⟨i,v⟩:=x;obtain⟨hic,o,ho,_,hni⟩:=hLs i (by simp);have hi:=hcs i hic;simp only[List.map_cons,List.pairwise_cons]at hpl
    have:i∈Region.ready .any ops listed:=(hmem_ready i).2 ⟨hi,by
     cases hg:listed.getD i true with
     |false=>rfl
     |true=>exact absurd (by simp) ((hlist i hi).1 hg).2,fun o' ho' j hj=>by
     rw[ho]at ho';injection ho' with ho';subst ho';have hjc:=hDc i o ho hic j hj;rw[hget j (hcs j hjc)];refine(hlist j (hcs j hjc)).2 ⟨hjc,fun hjL=> ?_⟩;simp only[List.map_cons,List.mem_cons]at hjL;rcases hjL with hjL|hjL
     ·subst hjL;exact hni hj
     ·exact(hpl.1 j hjL).2.2 o ho hj⟩
    rw[hnone]at this;simp at this
  ·intro i hi
   obtain⟨hin,hun,hdir⟩:=(hmem_ready i).1 hi;have ho:ops[i]? =some ops[i]:=by simp[hin]
   generalize hoe:ops[i]=o at ho;have hcl_i: ∀j∈cl.getD i [],listed.getD j false=true:=j3 hcl hDn i i o (Nat.le_refl _) ho (hdir o ho)
   have hset0: ∀j,(listed.setIfInBounds i true).getD j false=if j=i then true else listed.getD j false:=by
    intro j;by_cases hji:j=i
    ·subst hji;simp[Array.getD,hls,hin]
    ·rw[if_neg hji];simp only[Array.getD,Array.size_setIfInBounds]
     split
     ·exact Array.getElem_setIfInBounds_ne _ (Ne.symm hji)
     ·rfl
   have hDn':jJ ops (fun j=>(listed.setIfInBounds i true).getD j false=true):=by
    intro k x hx hk j hj;simp only[hset0]at hk|-;by_cases hji:j=i
    ·simp[hji]
    ·rw[if_neg hji]
     by_cases hki:k=i
     ·subst hki
      rw[ho]at hx;injection hx with hx;subst hx;exact hdir o ho j hj
     ·rw[if_neg hki]at hk
      exact hDn k x hx hk j hj
   have hsize':(listed.setIfInBounds i true).size=ops.size:=by simp[hls]
   have hset: ∀j,(listed.setIfInBounds i true).getD j true=if j=i then true else listed.getD j true:=by
    intro j;by_cases hji:j=i
    ·subst hji;simp[Array.getD,hls,hin]
    ·rw[if_neg hji];simp only[Array.getD,Array.size_setIfInBounds]
     split
     ·exact Array.getElem_setIfInBounds_ne _ (Ne.symm hji)
     ·rfl
   have hcount':(List.range ops.size).countP (fun k=> !(listed.setIfInBounds i true).getD k true)<=fuel:=by
    have:=zek (l:=List.range ops.size) (p:=fun k=> !(listed.setIfInBounds i true).getD k true) (q:=fun k=> !listed.getD k true) (i:=i)
     (fun x _ hx=>by
       simp only[hset]at hx;by_cases hxi:x=i
       ·simp[hxi]at hx
       ·simpa[hxi]using hx) (by simpa using hin) (by simp[hset]) (by simp[hun])
    omega
   by_cases hiL:i∈L.map (·.1)
   ·obtain⟨⟨i',v⟩,hm,hie⟩:=List.mem_map.1 hiL
    simp only at hie;subst hie;obtain⟨L1,L2,hLe⟩:=List.append_of_mem hm;subst hLe;have hpl':=hpl;simp only[List.map_append,List.map_cons,List.pairwise_append,List.pairwise_cons]at hpl;obtain⟨hp1,⟨hafter,hp2⟩,hcross⟩:=hpl;obtain⟨_,o',ho',hso,_⟩:=hLs i' hiL;rw[ho]at ho';injection ho' with ho';subst ho'
    have hfar: ∀p∈L1,Far ops i' p.1∧∀x,ops[p.1]? =some x->y1 x.op=false:=by
     intro p hpm;have hrel:=hcross p.1 (List.mem_map.2 ⟨p,hpm,rfl⟩) i' (by simp);have hpL:p.1∈(L1++(i',v)::L2).map (·.1):=List.mem_map.2 ⟨p,by simp[hpm],rfl⟩;refine⟨zdr htm hrel.2.1 (fun hc=>(hlc p.1 (hcl_i p.1 hc)).2.2 hpL) hrel.1,fun x hx=> ?_⟩;obtain⟨_,x',hx',hs',_⟩:=hLs p.1 hpL;rw[hx]at hx';injection hx' with hx';subst hx';exact hs'
    obtain⟨hy,hp',hpe⟩:=xT.pick ho hso L2 L1 a w hfar hp
    have hnot:i'∉(L1++L2).map (·.1):=by
     simp only[List.map_append,List.mem_append,not_or];refine⟨fun hc=> ?_,fun hc=> ?_⟩
     ·exact(hcross i' hc i' (by simp)).2.1 rfl
     ·exact(hafter i' hc).2.1 rfl
    have hsubm: ∀k∈(L1++L2).map (·.1),k∈(L1++(i',v)::L2).map (·.1):=by
     intro k hk;simp only[List.map_append,List.mem_append,List.map_cons,List.mem_cons]at hk|-;exact hk.elim .inl (fun h=> .inr (.inr h))
    have hnext:wpAny P .any ops Q fuel (listed.setIfInBounds i' true) (a.put o.dst v) w:=by
     refine ih _ (L1++L2) c t _ w ?_ hsize' hDn' hDc hcs ?_ (fun k hk=>hLs k (hsubm k hk)) hck htk hcount' hp' (by rw[hpe];exact he)
     ·intro k hk
      rw[hset];by_cases hki:k=i'
      ·subst hki
       simp only[if_true,true_iff];exact⟨(hLs k hiL).1,hnot⟩
      ·rw[if_neg hki,hlist k hk]
       simp only[List.map_append,List.mem_append,List.map_cons,List.mem_cons,not_or,hki,not_false_eq_true,true_and]
     ·refine hpl'.sublist ?_
      simp
    unfold wpOp;simp only[ho];rcases hy with⟨h1,h2⟩|⟨h1,h2⟩
    ·rw[if_pos h1]
     refine .inl ?_;unfold Oper.wp;rcases h2 w (hr w)with h3|⟨f,args,h3,h4⟩
     ·rw[h3]
      exact hnext
     ·rw[h3]
      refine h4.mono ?_;rintro e w'' ⟨rfl,rfl⟩;exact hnext
    ·rw[if_neg (by rw[h1];simp)]
     subst h2;exact hnext
   ·have hic:i∉c:=fun hc=>by
     rw[(hlist i hin).2 ⟨hc,hiL⟩]at hun;simp at hun
    have hdc: ∀j∈yK o,j∈c:=fun j hj=>(hlc j (hdir o ho j hj)).2.1
    obtain⟨t',hck',hso,hstep⟩:=zrx ho hdc hic t [] (puts ops L a) w (fun _=>htk) (by simp) hck he
    have hfar: ∀p∈L,Far ops i p.1∧∀x,ops[p.1]? =some x->y1 x.op=false:=by
     intro p hpm;have hpL:p.1∈L.map (·.1):=List.mem_map.2 ⟨p,hpm,rfl⟩;obtain⟨hpc,x',hx',hs',_⟩:=hLs p.1 hpL;refine⟨zdr htm (fun e=>hiL (e▸hpL)) (fun hc=>(hlc p.1 (hcl_i p.1 hc)).2.2 hpL) (fun hc=> ?_),fun x hx=> ?_⟩
     ·exact hic (j3 hcl hDc p.1 p.1 x' (Nat.le_refl _) hx' (fun j hj=>hDc p.1 x' hx' hpc j hj) i hc)
     ·rw[hx]at hx';injection hx' with hx';subst hx'
      exact hs'
    obtain⟨hex,hwa⟩:=kZ ho hso L a (fun p hpm=>(hfar p hpm).1);have hDc':jJ ops (· ∈i::c):=zcq ho hdc hDc
    have hnext: ∀v w',R w w'->qE P ops R (Q .normal) t' ((puts ops L a).put o.dst v) w'->wpAny P .any ops Q fuel (listed.setIfInBounds i true) (a.put o.dst v) w':=by
     intro v w' hrw he';obtain⟨hpf,hpe⟩:=xT.far ho v L a w hfar hp;obtain⟨M,t2,hM1,hM2,hM3,hM4,hM5⟩:=zlg hcl t' (i::c) _ w' hDc' hck' he';rw[<-hpe]at hM1 hM2;refine ih _ (L++M) ((M.map (·.1)).reverse++i::c) t2 _ w' ?_ hsize' hDn' hM5.down ?_ ?_ ?_ hM3 hM4 hcount' (xT.append L M _ w' (hpf.later ht hrw) hM1) (by rw[vf];exact hM2)
     ·intro k hk
      rw[hset];simp only[List.map_append,List.mem_append,List.mem_reverse,List.mem_cons];by_cases hki:k=i
      ·subst hki
       simp only[if_true,true_iff];exact⟨.inr (.inl trivial),fun h=>h.elim hiL (fun h=>hM5.out k h (by simp))⟩
      ·rw[if_neg hki,hlist k hk]
       constructor
       ·rintro⟨h1,h2⟩
        exact⟨.inr (.inr h1),fun h=>h.elim h2 (fun h=>hM5.out k h (by simp[h1]))⟩
       ·rintro⟨h1,h2⟩
        simp only[not_or]at h2;rcases h1 with h1|h1|h1
        ·exact absurd h1 h2.2
        ·exact absurd h1 hki
        ·exact⟨h1,h2.1⟩
     ·intro k hk
      simp only[List.mem_append,List.mem_reverse,List.mem_cons]at hk;rcases hk with hk|hk|hk
      ·obtain⟨x,hx,_⟩:=hM5.sel k hk
       exact(Array.getElem?_eq_some_iff.1 hx).1
      ·exact hk▸hin
      ·exact hcs k hk
     ·rw[List.map_append,List.pairwise_append]
      refine⟨hpl,hM5.pair,fun p hpL q hq=> ?_⟩;obtain⟨hpc,x',hx',_⟩:=hLs p hpL;have hqn:=hM5.out q hq;simp only[List.mem_cons,not_or]at hqn;refine⟨fun hc=>hqn.2 (j3 hcl hDc p p x' (Nat.le_refl _) hx' (fun j hj=>hDc p x' hx' hpc j hj) q hc),fun e=>hqn.2 (e▸hpc),fun x hx hc=> ?_⟩;exact hqn.2 (hDc p x hx hpc q hc)
     ·intro k hk
      rw[List.map_append,List.mem_append]at hk;rcases hk with hk|hk
      ·obtain⟨h1,h2⟩:=hLs k hk
       exact⟨by simp[h1],h2⟩
      ·exact⟨by simp only[List.mem_append,List.mem_reverse];exact .inl hk,hM5.sel k hk⟩
    unfold wpOp;simp only[ho];by_cases hw:Region.wanted o (yielded ops a.tmps)=true
    ·rw[if_pos (by rw[hwa];exact hw)]at hstep
     rw[if_pos hw];refine .inl (jG (K:=fun a' w'=>R w w'∧qE P ops R (Q .normal) t' a' w') hex.symm ?_ (fun v w' hk=>hnext v w' hk.1 hk.2));exact Oper.wp_mono (fun a' w' h=>⟨h.2.1,h.1,h.2.2⟩) hstep
    ·rw[if_neg (by rw[hwa];exact hw)]at hstep
     rw[if_neg hw];exact hnext undef w (hr w) hstep
def zbe(ops:Array Oper)(t:Tree):Bool:=
 let cl:=zeg ops.toList
 zgu ops cl&&zba ops cl&&yO ops [] [] t
theorem qR{id:Nat}{Q:Exit->Act->World->Prop}{a:Act}{w:World}(R:World->World->Prop)(t:Tree)(hr: ∀w,R w w)(ht: ∀a b c,R a b->R b c->R a c)
 (hm:P.follows .mixedOrders=true) (hck:zbe ops t=true) (h:qE P ops R (Q .normal) t a w.drew):(Code.region id ops true).wp P Q a w:=by
 simp only[zbe,Bool.and_eq_true]at hck;obtain⟨⟨h1,h2⟩,h3⟩:=hck;obtain⟨M,t',k1,k2,k3,k4,k5⟩:=zlg h1 t [] a _ (fun _ _ _ h=>by simp at h) h3 h;refine wp_region_any hm (zsf hr ht h1 h2 ops.size _ M ((M.map (·.1)).reverse++ []) t' a _ ?_ (by simp) ?_ k5.down ?_ k5.pair ?_ k3 k4 ?_ k1 k2)
 ·intro i hi
  simp[Array.getD,hi]
 ·intro i o ho hd
  have hi:i<ops.size:=(Array.getElem?_eq_some_iff.1 ho).1;simp[Array.getD,hi]at hd
 ·intro k hk
  simp only[List.append_nil,List.mem_reverse]at hk;obtain⟨x,hx,_⟩:=k5.sel k hk;exact(Array.getElem?_eq_some_iff.1 hx).1
 ·intro k hk
  exact⟨by simpa using hk,k5.sel k hk⟩
 ·exact Nat.le_trans List.countP_le_length (by simp)
structure wpT(P:Program)(ops:Array Oper)(R:World->World->Prop)(Q:Act->World->Prop)(t:Tree)(a:Act)(w:World):Prop where
 out:qE P ops R Q t a w
section
variable{Q:Act->World->Prop} {a:Act} {w:World} {o:Oper} {S:List Nat} {i:Nat} {t more:Tree}
theorem vy:wpT P ops R Q .none a w:=⟨by simp[qE]⟩
theorem zi(h:Q a w):wpT P ops R Q .done a w:=⟨by simpa[qE]using h⟩
theorem zjh{W:World}(hx:But S W w){v:Value}(ho:ops[i]? =some o)(hw:Region.wanted o (yielded ops a.tmps)=true)
 (hv: ∀w',(∀b f,b∉S->(W.cell? ⟨b,f,none⟩).isSome=true->w'.cell? ⟨b,f,none⟩=W.cell? ⟨b,f,none⟩) ->(execOp a.eval o).run P w'= .ok (.value v) w')
 (h:wpT P ops (But S) Q t (a.put o.dst v) w):wpT P ops (But S) Q (.take i t) a w:=by
 refine⟨?_⟩;simp only[qE,ho];rw[if_pos hw];exact⟨v,fun w' hr=> .inl (hv w' (hx.trans hr).cell),h.out⟩
theorem zlh(ho:ops[i]? =some o)(hw:Region.wanted o (yielded ops a.tmps)=false)(h:wpT P ops R Q t (a.put o.dst undef) w):wpT P ops R Q (.take i t) a w:=by
 refine⟨?_⟩;simp only[qE,ho];rw[if_neg (by rw[hw];simp)];exact h.out
theorem jZ(ho:ops[i]? =some o)(hw:Region.wanted o (yielded ops a.tmps)=true)
 (h: ∀K:Act->World->Prop,(∀v w',R w w'->(R w w'->wpT P ops R Q t (a.put o.dst v) w') ->K (a.put o.dst v) w') ->o.wp P a w K (fun _ _ _=>False))
 (hm:wpT P ops R Q more a w):wpT P ops R Q (.alt i t more) a w:=by
 refine⟨?_⟩;simp only[qE,ho];rw[if_pos hw];exact⟨h _ fun v w' hr he=>⟨hr,⟨v,rfl⟩,(he hr).out⟩,hm.out⟩
theorem zab(ho:ops[i]? =some o)(hd:o.dst=none)(hw:Region.wanted o (yielded ops a.tmps)=true)
 (h: ∀K:Act->World->Prop,(∀w',R w w'->(R w w'->wpT P ops R Q t a w') ->K a w') ->o.wp P a w K (fun _ _ _=>False))
 (hm:wpT P ops R Q more a w):wpT P ops R Q (.alt i t more) a w:=
 jZ ho hw (fun K hK=>h K fun w' hr he=>by
  have:=hK undef w' hr;rw[hd]at this;exact this he) hm
end
theorem zM(S:List Nat){id:Nat}{Q:Exit->Act->World->Prop}{a:Act}{w:World}(t:Tree)
 (hm:P.follows .mixedOrders=true) (hck:zbe ops t=true) (h:But S w.drew w.drew->Ext w.drew w.drew->wpT P ops (But S) (Q .normal) t a w.drew):(Code.region id ops true).wp P Q a w:=
 qR (But S) t (But.refl S) (fun _ _ _=>But.trans) hm hck (h (But.refl _ _) (Ext.refl _)).out
structure Bel(N:Nat)(S:List Nat)(w w':World):Prop where
 os:w'.os=w.os
 tape:w'.tape=w.tape
 output:w'.output=w.output
 size:w.heap.size<=w'.heap.size
 block:N<=w.heap.size-> ∀k,k<N->k∉S->w'.heap[k]? =w.heap[k]?
theorem Bel.refl(N:Nat)(S:List Nat)(w:World):Bel N S w w:=⟨rfl,rfl,rfl,Nat.le_refl _,fun _ _ _ _=>rfl⟩
theorem Bel.trans{N:Nat}{S:List Nat}{a b c:World}(h:Bel N S a b)(k:Bel N S b c):Bel N S a c:=
 ⟨k.os.trans h.os,k.tape.trans h.tape,k.output.trans h.output,Nat.le_trans h.size k.size,fun hN i hi hs=>(k.block (Nat.le_trans hN h.size) i hi hs).trans (h.block hN i hi hs)⟩
theorem But.bel{S:List Nat}{w w':World}(h:But S w w')(N:Nat):Bel N S w w':=⟨h.os,h.tape,h.output,h.size,fun hN k hk hs=>h.block k (Nat.lt_of_lt_of_le hk hN) hs⟩
theorem Ext.bel{S:List Nat}{w w':World}(h:Ext w w')(N:Nat):Bel N S w w':=(h.but S).bel N
theorem Bel.but{S:List Nat}{w w':World}(h:Bel w.heap.size S w w'):But S w w':=⟨h.os,h.tape,h.output,h.size,fun k hk hs=>h.block (Nat.le_refl _) k hk hs⟩
theorem Bel.alloc{N:Nat}{S:List Nat}{a w:World}(h:Bel N S a w)(o:Obj):Bel N S a (w.alloc o):=
 h.trans (((But.refl S w).alloc o).bel N)
theorem Bel.drew{N:Nat}{S:List Nat}{a w:World}(h:Bel N S a w):Bel N S a w.drew:=⟨h.os,h.tape,h.output,h.size,h.block⟩
theorem Bel.drewL{N:Nat}{S:List Nat}{a w:World}(h:Bel N S a w):Bel N S a.drew w:=⟨h.os,h.tape,h.output,h.size,h.block⟩
theorem Bel.setCell{N:Nat}{S:List Nat}{a w:World}(h:Bel N S a w){p:Addr}(hp:N<=p.block)(u:Value):Bel N S a (w.setCell p u):=
 h.trans ⟨rfl,rfl,rfl,by simp[World.setCell],fun _ k hk _=>RowKit.Below.heap_setCell _ _ _ _ (fun e=>by omega)⟩
theorem Bel.setIn{N:Nat}{S:List Nat}{a w:World}(h:Bel N S a w){p:Addr}(hp:p.block∈S)(u:Value):Bel N S a (w.setCell p u):=
 h.trans ⟨rfl,rfl,rfl,by simp[World.setCell],fun _ k _ hs=>RowKit.Below.heap_setCell _ _ _ _ (fun e=>hs (e▸hp))⟩
theorem Bel.alloc1{N:Nat}{S:List Nat}{w:World}{o o':Obj}(hN:N<=w.heap.size):Bel N S (w.alloc o) (w.alloc o'):=by
 refine⟨rfl,rfl,rfl,by simp,fun _ k hk _=> ?_⟩;rw[RowKit.Below.heap_alloc _ _ _ (by omega),RowKit.Below.heap_alloc _ _ _ (by omega)]
theorem Bel.cell{N:Nat}{S:List Nat}{w w':World}(h:Bel N S w w')(hN:N<=w.heap.size)(b o:Nat)(hb:b<N)(hs:b∉S):w'.cell? ⟨b,o,none⟩=w.cell? ⟨b,o,none⟩:=
 World.cell?_of_block (w:=w) (h.block hN b hb hs)
theorem zji{N:Nat}{Q:Act->World->Prop}{a:Act}{w:World}{o:Oper}{S:List Nat}{i:Nat}{t:Tree}{W:World}(hx:Bel N S W w)(hN:N<=W.heap.size){v:Value}(ho:ops[i]? =some o)(hw:Region.wanted o (yielded ops a.tmps)=true)
 (hv: ∀w',(∀b f,b<N->b∉S->w'.cell? ⟨b,f,none⟩=W.cell? ⟨b,f,none⟩) ->(execOp a.eval o).run P w'= .ok (.value v) w')
 (h:wpT P ops (Bel N S) Q t (a.put o.dst v) w):wpT P ops (Bel N S) Q (.take i t) a w:=by
 refine⟨?_⟩;simp only[qE,ho];rw[if_pos hw];exact⟨v,fun w' hr=> .inl (hv w' (fun b f hb hs=>(hx.trans hr).cell hN b f hb hs)),h.out⟩
theorem zn(N:Nat)(S:List Nat){id:Nat}{Q:Exit->Act->World->Prop}{a:Act}{w:World}(t:Tree)
 (hm:P.follows .mixedOrders=true) (hck:zbe ops t=true) (h:Bel N S w.drew w.drew->wpT P ops (Bel N S) (Q .normal) t a w.drew):(Code.region id ops true).wp P Q a w:=
 qR (Bel N S) t (Bel.refl N S) (fun _ _ _=>Bel.trans) hm hck (h (Bel.refl _ _ _)).out
end
end Go.Draw
namespace Go.Draw
open Go.RowKit Go.WideShapes Go.ChangeShapes Go.ChangeAt
section
variable{H:Type} {enc:TypeId×Value->H} {P:Program} {w:World} {held:Bool}
theorem zdt{t e:TypeId}{k:IntKind}{fuel:Nat}{v:Value}{x:DataW H×List MemPlace}(ht:P.underlying t=some (.slice e))(he:P.underlying e=some (.int k))(hc:P.cellsOf e=1)
 (h:DataW.trod enc P w 0 (fun _=>true) held fuel t [v]=some x):
 ∃(A:Option Addr) (n c:Nat) (zs:List Int),v= .slice A n c∧Rd w A n 1 (zs.map (Value.int k))∧n<=9223372036854775807∧∀z∈zs,(Lit.int k z).wf=true:=by
 rcases open_ints ht he hc h with⟨hcs,_⟩|⟨a,len,cap,zs,hcs,_,hl,hm,hz,_,hcell,hw⟩
 ·simp only[List.cons.injEq,and_true]at hcs
  exact⟨none,0,0,[],hcs,Rd.nil_ _ _ _,by omega,by simp⟩
 ·simp only[List.cons.injEq,and_true]at hcs
  simp only[if_true]at hz;refine⟨some a,len,cap,zs.take len,hcs,zej (by simp;omega) fun i u hu=> ?_,by unfold maxLen at hm;omega,fun z hz=>hw z (List.mem_of_mem_take hz)⟩;simp only[List.getElem?_map,List.getElem?_take,Option.map_eq_some_iff]at hu;obtain⟨z,h1,rfl⟩:=hu;split at h1
  ·have h2:=(List.getElem?_eq_some_iff.1 h1).1
   have h3:=hcell i h2;rw[List.getD_eq_getElem?_getD,h1]at h3;exact h3
  ·cases h1
theorem zon{t:TypeId}{v:Value}{d:DataW H}{p:List MemPlace}(hc:v.cells.toList= [v])(h:DataW.Trod enc P w 0 (fun _=>true) held t v d p): ∃fuel,DataW.trod enc P w 0 (fun _=>true) held fuel t [v]=some (d,p):=by
 obtain⟨fuel,hf⟩:=h;rw[hc]at hf;exact⟨fuel,hf⟩
theorem arg_ints{t e:TypeId}{k:IntKind}{v:Value}{r:Reach}{b:Nat}{d:DataW H}{p:List MemPlace}(ht:P.underlying t=some (.slice e))(he:P.underlying e=some (.int k))(hc:P.cellsOf e=1)
 (hv:Value.okWide P w r b t v) (h:DataW.Trod enc P w 0 (fun _=>true) held t v d p):
 ∃(A:Option Addr) (n c:Nat) (zs:List Int),v= .slice A n c∧Rd w A n 1 (zs.map (Value.int k))∧n<=9223372036854775807∧∀z∈zs,(Lit.int k z).wf=true:=by
 obtain⟨a0,len,cap,rfl⟩:=okWide_slice ht hv;obtain⟨fuel,hf⟩:=zon rfl h;exact zdt ht he hc hf
end
end Go.Draw
namespace Go.Draw
theorem put_comm(a:Act){d d':Option Tmp}(x y:Value)(h: ∀s,d=some s->d'≠some s):(a.put d x).put d' y=(a.put d' y).put d x:=by
 cases d with
 |none=>rfl
 |some s=>
  cases d' with
  |none=>rfl
  |some s'=>
   have hne:s≠s':=fun e=>h s rfl (by rw[e])
   simp only[Act.put];congr 1;exact Array.setIfInBounds_comm _ _ hne
theorem jX{w w':World}(h:Ext w w':=by(repeat(first|(with_reducible exact Ext.refl _)|assumption|(with_reducible refine Ext.alloc ?_ _)|(with_reducible refine Ext.drew ?_)|(with_reducible refine Ext.drewL ?_)|refine Ext.trans ?_ (by assumption)))):Ext w w':=h
theorem jB{S:List Nat}{w w':World}(h:But S w w':=by(repeat(first|(with_reducible exact But.refl _ _)|assumption|(with_reducible refine But.drew ?_)|(with_reducible refine But.drewL ?_)|(with_reducible refine But.setCell ?_ ?_ _;rotate_left;(focus(simp;done)))|(with_reducible refine But.setCellL ?_ ?_;rotate_left;(focus(simp;done)))|(with_reducible refine But.alloc2 ?_ ?_;rotate_left;(focus(simp[World.setCell];done)))|(with_reducible refine But.allocL ?_ ?_ ?_;rotate_left;(focus(simp;done));(focus(simp;done)))|(with_reducible refine But.alloc ?_ _)))):But S w w':=h
theorem jN{N:Nat}{S:List Nat}{w w':World}(h:Bel N S w w':=by(repeat(first|(with_reducible exact Bel.refl _ _ _)|assumption|(with_reducible exact Bel.alloc1 (by first|assumption|omega|(simp;omega)))|(with_reducible refine Bel.drew ?_)|(with_reducible refine Bel.drewL ?_)|(with_reducible refine Bel.setCell ?_ ?_ _;rotate_left;(focus(first|omega|(simp;done)|(simp;omega))))|(with_reducible refine Bel.alloc ?_ _)))):Bel N S w w':=h
section
variable{P:Program} {ops:Array Oper} {Q:Act->World->Prop} {a a':Act} {w:World} {o:Oper} {i N:Nat} {S:List Nat} {t more:Tree} {R:World->World->Prop} {v:Value} {W:World}
theorem jp(h:wpT P ops R Q t a' w)(e:a=a':=by first|(simp only[Act.put,List.setIfInBounds_toArray,List.set_cons_zero,List.set_cons_succ];done)|(simp only[Act.put,List.setIfInBounds_toArray,List.set_cons_zero,List.set_cons_succ];rfl)|rfl):wpT P ops R Q t a w:=e▸h
theorem jTN(hx:Bel N S W w)(h:wpT P ops (Bel N S) Q t a' w)(hN:N<=W.heap.size:=by first|(simp;done)|(simp;omega))(ho:ops[i]? =some o:=by exact List.getElem?_toArray.trans (by rfl))(hw:Region.wanted o (yielded ops a.tmps)=true:=by rfl)
 (hv: ∀w',(∀b f,b<N->b∉S->w'.cell? ⟨b,f,none⟩=W.cell? ⟨b,f,none⟩) ->(execOp a.eval o).run P w'= .ok (.value v) w':=by intro _ hc;go_simp;(try go_ints);exact rfl) (e:a.put o.dst v=a':=by first|(simp only[Act.put,List.setIfInBounds_toArray,List.set_cons_zero,List.set_cons_succ];done)|(simp only[Act.put,List.setIfInBounds_toArray,List.set_cons_zero,List.set_cons_succ];rfl)|rfl):wpT P ops (Bel N S) Q (.take i t) a w:=
 zji hx hN ho hw hv (e▸h)
theorem jTB(hx:But S W w)(h:wpT P ops (But S) Q t a' w)(ho:ops[i]? =some o:=by exact List.getElem?_toArray.trans (by rfl))(hw:Region.wanted o (yielded ops a.tmps)=true:=by rfl)
 (hv: ∀w',(∀b f,b∉S->(W.cell? ⟨b,f,none⟩).isSome=true->w'.cell? ⟨b,f,none⟩=W.cell? ⟨b,f,none⟩) ->(execOp a.eval o).run P w'= .ok (.value v) w':=by intro _ hc;go_simp;(try go_ints);exact rfl) (e:a.put o.dst v=a':=by first|(simp only[Act.put,List.setIfInBounds_toArray,List.set_cons_zero,List.set_cons_succ];done)|(simp only[Act.put,List.setIfInBounds_toArray,List.set_cons_zero,List.set_cons_succ];rfl)|rfl):wpT P ops (But S) Q (.take i t) a w:=
 zjh hx ho hw hv (e▸h)
theorem jTS(h:wpT P ops R Q t a' w)(ho:ops[i]? =some o:=by exact List.getElem?_toArray.trans (by rfl))(hw:Region.wanted o (yielded ops a.tmps)=false:=by rfl)(e:a.put o.dst undef=a':=by first|(simp only[Act.put,List.setIfInBounds_toArray,List.set_cons_zero,List.set_cons_succ];done)|(simp only[Act.put,List.setIfInBounds_toArray,List.set_cons_zero,List.set_cons_succ];rfl)|rfl):wpT P ops R Q (.take i t) a w:=
 zlh ho hw (e▸h)
theorem jTC(h: ∀K:Act->World->Prop,(∀v w',R w w'->(R w w'->wpT P ops R Q t (a.put o.dst v) w') ->K (a.put o.dst v) w') ->o.wp P a w K (fun _ _ _=>False))
 (hm:wpT P ops R Q more a w:=by exact vy) (ho:ops[i]? =some o:=by exact List.getElem?_toArray.trans (by rfl)) (hw:Region.wanted o (yielded ops a.tmps)=true:=by rfl):wpT P ops R Q (.alt i t more) a w:=
 jZ ho hw h hm
theorem jTT(h: ∀K:Act->World->Prop,(∀w',R w w'->(R w w'->wpT P ops R Q t a w') ->K a w') ->o.wp P a w K (fun _ _ _=>False))
 (hm:wpT P ops R Q more a w:=by exact vy) (ho:ops[i]? =some o:=by exact List.getElem?_toArray.trans (by rfl)) (hd:o.dst=none:=by rfl) (hw:Region.wanted o (yielded ops a.tmps)=true:=by rfl):wpT P ops R Q (.alt i t more) a w:=
 zab ho hd hw h hm
theorem jTK(h:wpT P ops R Q t a' w)(ho:ops[i]? =some o:=by exact List.getElem?_toArray.trans (by rfl))(hw:Region.wanted o (yielded ops a.tmps)=true:=by rfl)
 (hv: ∀w',R w w'->(execOp a.eval o).run P w'= .ok (.value v) w':=by intro _ hc;go_simp;(try go_ints);exact rfl) (e:a.put o.dst v=a':=by first|(simp only[Act.put,List.setIfInBounds_toArray,List.set_cons_zero,List.set_cons_succ];done)|(simp only[Act.put,List.setIfInBounds_toArray,List.set_cons_zero,List.set_cons_succ];rfl)|rfl):wpT P ops R Q (.take i t) a w:=by
 refine⟨?_⟩;simp only[qE,ho];rw[if_pos hw];exact⟨v,fun w' hr=> .inl (hv w' hr),(e▸h:wpT P ops R Q t (a.put o.dst v) w).out⟩
theorem jCB(hx:But S W w)(h: ∀K:Act->World->Prop,(∀v w',But S w w'->(But S W w'->wpT P ops (But S) Q t (a.put o.dst v) w') ->K (a.put o.dst v) w') ->o.wp P a w K (fun _ _ _=>False))
 (hm:wpT P ops (But S) Q more a w:=by exact vy) (ho:ops[i]? =some o:=by exact List.getElem?_toArray.trans (by rfl)) (hw:Region.wanted o (yielded ops a.tmps)=true:=by rfl):wpT P ops (But S) Q (.alt i t more) a w:=
 jZ ho hw (fun K hK=>h K fun v w' hr hk=>hK v w' hr fun hr=>hk (hx.trans hr)) hm
theorem kc(hx:But S W w)(h: ∀K:Act->World->Prop,(∀w',But S w w'->(But S W w'->wpT P ops (But S) Q t a w') ->K a w') ->o.wp P a w K (fun _ _ _=>False))
 (hm:wpT P ops (But S) Q more a w:=by exact vy) (ho:ops[i]? =some o:=by exact List.getElem?_toArray.trans (by rfl)) (hd:o.dst=none:=by rfl) (hw:Region.wanted o (yielded ops a.tmps)=true:=by rfl):wpT P ops (But S) Q (.alt i t more) a w:=
 zab ho hd hw (fun K hK=>h K fun w' hr hk=>hK w' hr fun hr=>hk (hx.trans hr)) hm
theorem jCN(hx:Bel N S W w)(h: ∀K:Act->World->Prop,(∀v w',Bel N S w w'->(Bel N S W w'->wpT P ops (Bel N S) Q t (a.put o.dst v) w') ->K (a.put o.dst v) w') ->o.wp P a w K (fun _ _ _=>False))
 (hm:wpT P ops (Bel N S) Q more a w:=by exact vy) (ho:ops[i]? =some o:=by exact List.getElem?_toArray.trans (by rfl)) (hw:Region.wanted o (yielded ops a.tmps)=true:=by rfl):wpT P ops (Bel N S) Q (.alt i t more) a w:=
 jZ ho hw (fun K hK=>h K fun v w' hr hk=>hK v w' hr fun hr=>hk (hx.trans hr)) hm
theorem yl(hx:Bel N S W w)(h: ∀K:Act->World->Prop,(∀w',Bel N S w w'->(Bel N S W w'->wpT P ops (Bel N S) Q t a w') ->K a w') ->o.wp P a w K (fun _ _ _=>False))
 (hm:wpT P ops (Bel N S) Q more a w:=by exact vy) (ho:ops[i]? =some o:=by exact List.getElem?_toArray.trans (by rfl)) (hd:o.dst=none:=by rfl) (hw:Region.wanted o (yielded ops a.tmps)=true:=by rfl):wpT P ops (Bel N S) Q (.alt i t more) a w:=
 zab ho hd hw (fun K hK=>h K fun w' hr hk=>hK w' hr fun hr=>hk (hx.trans hr)) hm
end
section
variable{P:Program} {ops:Array Oper} {Q:Act->World->Prop} {a a':Act} {w:World} {o:Oper} {S:List Nat} {rest:List (Bool×Oper)} {st:Bool} {R:World->World->Prop} {v:Value} {W:World}
theorem jq(h:wpL P ops R Q rest a' w)(e:a=a':=by first|(simp only[Act.put,List.setIfInBounds_toArray,List.set_cons_zero,List.set_cons_succ];done)|(simp only[Act.put,List.setIfInBounds_toArray,List.set_cons_zero,List.set_cons_succ];rfl)|rfl):wpL P ops R Q rest a w:=e▸h
theorem jLE(hx:Ext W w)(h:wpL P ops Ext Q rest a' w)(hw:Region.wanted o (yielded ops a.tmps)=true:=by rfl)
 (hv: ∀w',(∀b f,(W.cell? ⟨b,f,none⟩).isSome=true->w'.cell? ⟨b,f,none⟩=W.cell? ⟨b,f,none⟩) ->(execOp a.eval o).run P w'= .ok (.value v) w':=by intro _ hc;go_simp;(try go_ints);exact rfl) (e:a.put o.dst v=a':=by first|(simp only[Act.put,List.setIfInBounds_toArray,List.set_cons_zero,List.set_cons_succ];done)|(simp only[Act.put,List.setIfInBounds_toArray,List.set_cons_zero,List.set_cons_succ];rfl)|rfl):wpL P ops Ext Q ((true,o)::rest) a w:=
 zle hx hw hv (e▸h)
theorem jLB(hx:But S W w)(h:wpL P ops (But S) Q rest a' w)(hw:Region.wanted o (yielded ops a.tmps)=true:=by rfl)
 (hv: ∀w',(∀b f,b∉S->(W.cell? ⟨b,f,none⟩).isSome=true->w'.cell? ⟨b,f,none⟩=W.cell? ⟨b,f,none⟩) ->(execOp a.eval o).run P w'= .ok (.value v) w':=by intro _ hc;go_simp;(try go_ints);exact rfl) (e:a.put o.dst v=a':=by first|(simp only[Act.put,List.setIfInBounds_toArray,List.set_cons_zero,List.set_cons_succ];done)|(simp only[Act.put,List.setIfInBounds_toArray,List.set_cons_zero,List.set_cons_succ];rfl)|rfl):wpL P ops (But S) Q ((true,o)::rest) a w:=
 xA hx hw hv (e▸h)
theorem jLS(h:wpL P ops R Q rest a' w)(hw:Region.wanted o (yielded ops a.tmps)=false:=by rfl)(e:a.put o.dst undef=a':=by first|(simp only[Act.put,List.setIfInBounds_toArray,List.set_cons_zero,List.set_cons_succ];done)|(simp only[Act.put,List.setIfInBounds_toArray,List.set_cons_zero,List.set_cons_succ];rfl)|rfl):wpL P ops R Q ((st,o)::rest) a w:=
 zlf hw (e▸h)
theorem yo(hx:Ext W w)(h: ∀K:Act->World->Prop,(∀v w',Ext w w'->(Ext W w'->wpL P ops (Ext) Q rest (a.put o.dst v) w') ->K (a.put o.dst v) w') ->o.wp P a w K (fun _ _ _=>False))(hw:Region.wanted o (yielded ops a.tmps)=true:=by rfl):wpL P ops (Ext) Q ((false,o)::rest) a w:=
 jY hw (fun K hK=>h K fun v w' hr hk=>hK v w' hr fun hr=>hk (hx.trans hr))
theorem yP(hx:But S W w)(h: ∀K:Act->World->Prop,(∀v w',But S w w'->(But S W w'->wpL P ops (But S) Q rest (a.put o.dst v) w') ->K (a.put o.dst v) w') ->o.wp P a w K (fun _ _ _=>False))(hw:Region.wanted o (yielded ops a.tmps)=true:=by rfl):wpL P ops (But S) Q ((false,o)::rest) a w:=
 jY hw (fun K hK=>h K fun v w' hr hk=>hK v w' hr fun hr=>hk (hx.trans hr))
end
theorem jRE{P:Program}{ops:Array Oper}{id:Nat}{Q:Exit->Act->World->Prop}{a:Act}{w:World}(pi:List (Bool×Nat)){l:List (Bool×Oper)}
 (hm:P.follows .mixedOrders=true) (h:Ext w.drew w.drew->wpL P ops Ext (Q .normal) l a w.drew) (hck:zap ops pi=true:=by kernel_rfl) (hl:pick ops pi=l:=by simp only[pick,List.filterMap_cons,List.filterMap_nil,List.getElem?_toArray,List.getElem?_cons_succ,List.getElem?_cons_zero,Option.map_some];rfl):(Code.region id ops true).wp P Q a w:=
 zcn pi hm hck hl h
theorem jRB{P:Program}{ops:Array Oper}(S:List Nat){id:Nat}{Q:Exit->Act->World->Prop}{a:Act}{w:World}(pi:List (Bool×Nat)){l:List (Bool×Oper)}
 (hm:P.follows .mixedOrders=true) (h:But S w.drew w.drew->Ext w.drew w.drew->wpL P ops (But S) (Q .normal) l a w.drew) (hck:zap ops pi=true:=by kernel_rfl) (hl:pick ops pi=l:=by simp only[pick,List.filterMap_cons,List.filterMap_nil,List.getElem?_toArray,List.getElem?_cons_succ,List.getElem?_cons_zero,Option.map_some];rfl):(Code.region id ops true).wp P Q a w:=
 vu S pi hm hck hl h
end Go.Draw
