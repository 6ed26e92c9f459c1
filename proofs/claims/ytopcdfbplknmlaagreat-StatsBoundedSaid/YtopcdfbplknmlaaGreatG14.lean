/- Part of the proof of the claim: walks and plain laws; each theorem states its own conditions. -/
import Derived.Test.YtopcdfbplknmlaaGreatL
import Derived.Test.YtopcdfbplknmlaaGreatG13
import Derived.Test.YtopcdfbplknmlaaGreatG8
import Derived.Test.YtopcdfbplknmlaaGreatG4
import Derived.Test.YtopcdfbplknmlaaGreatG2
set_option linter.all false
namespace Go.Proofs.YtopcdfbplknmlaaGreat
open Go.RowKit Go.Draw
def zhi(z:Int)(Q:List (List Inc)):List (List Inc):=Q.map fun q=>q.filter fun i=>decide (i.q≠z)
def yZ(zs:List Int)(Q:List (List Inc)):List (List Inc):=Q.map fun q=>q.filter fun i=>decide (i.q∉zs)
theorem zfy(Q:List (List Inc)):yZ [] Q=Q:=by
 unfold yZ
 have:(fun q:List Inc=>q.filter fun i=>decide (i.q∉([]:List Int)))=id:=by
  funext q;simp
 rw[this,List.map_id]
theorem zkk(zs:List Int)(z:Int)(Q:List (List Inc)):yZ (zs++ [z]) Q=zhi z (yZ zs Q):=by
 unfold yZ zhi;rw[List.map_map];congr 1;funext q;simp only[Function.comp,List.filter_filter];congr 1;funext i;simp only[List.mem_append,List.mem_singleton,not_or,Bool.decide_and];rw[Bool.and_comm]
theorem ju(zs:List Int)(Q:List (List Inc)):(yZ zs Q).length=Q.length:=by simp[yZ]
theorem zi2{zs:List Int}{Q:List (List Inc)}{k:Nat}{q:List Inc}(h:Q[k]? =some q):(yZ zs Q)[k]? =some (q.filter fun i=>decide (i.q∉zs)):=by simp[yZ,h]
theorem zc7(zs:List Int)(Q:List (List Inc)):(yZ zs Q).flatten=Q.flatten.filter fun i=>decide (i.q∉zs):=by
 unfold yZ;rw[List.filter_flatten]
theorem jv{z:Int}: ∀{q:List Inc},(∀i∈q,i.q≠z) ->q.filter (fun i=>decide (i.q≠z))=q:=fun h=>List.filter_eq_self.2 fun i hi=>by simpa using h i hi
theorem kn: ∀{q:List Inc} {m:Nat} {x:Inc},(q.map (·.q)).Nodup->q[m]? =some x->q.eraseIdx m=q.filter (fun i=>decide (i.q≠x.q))
 | [],m,x,_,h=>by simp at h
 |i::q,0,x,hn,h=>by
  simp only[List.getElem?_cons_zero,Option.some.injEq]at h;subst h;simp only[List.map_cons,List.nodup_cons,List.mem_map,not_exists,not_and]at hn;rw[List.eraseIdx_cons_zero,List.filter_cons,if_neg (by simp),jv fun j hj=>hn.1 j hj]
 |i::q,m+1,x,hn,h=>by
  simp only[List.getElem?_cons_succ]at h;simp only[List.map_cons,List.nodup_cons,List.mem_map,not_exists,not_and]at hn;have hne:i.q≠x.q:=fun e=>hn.1 x (List.mem_of_getElem? h) e.symm
  rw[List.eraseIdx_cons_succ,List.filter_cons,if_pos (by simpa using hne),kn hn.2 h]
theorem zfz: ∀{Q:List (List Inc)} {k m:Nat} {q:List Inc} {x:Inc},(Q.flatten.map (·.q)).Nodup->Q[k]? =some q->q[m]? =some x->Q.set k (q.eraseIdx m)=zhi x.q Q
 | [],k,m,q,x,_,h,_=>by simp at h
 |p::Q,0,m,q,x,hn,h,hx=>by
  simp only[List.getElem?_cons_zero,Option.some.injEq]at h;subst h;simp only[List.flatten_cons,List.map_append]at hn;obtain⟨h1,h2,h3⟩:=List.nodup_append.1 hn;rw[List.set_cons_zero,kn h1 hx]
  have:zhi x.q Q=Q:=by
   unfold zhi
   conv=>rhs;rw[<-List.map_id Q]
   refine List.map_congr_left fun q hq=>jv fun i hi e=> ?_
   exact h3 x.q (List.mem_map_of_mem (f:=fun j:Inc=>j.q) (List.mem_of_getElem? hx)) i.q (List.mem_map_of_mem (f:=fun j:Inc=>j.q) (List.mem_flatten.2 ⟨q,hq,hi⟩)) e.symm
  show _=_::zhi x.q Q;rw[this]
 |p::Q,k+1,m,q,x,hn,h,hx=>by
  simp only[List.getElem?_cons_succ]at h;simp only[List.flatten_cons,List.map_append]at hn;obtain⟨h1,h2,h3⟩:=List.nodup_append.1 hn;rw[List.set_cons_succ,zfz h2 h hx];show _=p.filter _::zhi x.q Q;rw[jv fun i hi e=> ?_];exact h3 i.q (List.mem_map_of_mem (f:=fun j:Inc=>j.q) hi) x.q (List.mem_map_of_mem (f:=fun j:Inc=>j.q) (List.mem_flatten.2 ⟨q,List.mem_of_getElem? h,List.mem_of_getElem? hx⟩)) e
theorem zd3{p:Inc->Bool}{F:List Inc}(h:(F.map (·.q)).Nodup):((F.filter p).map (·.q)).Nodup:=by
 rw[List.nodup_iff_pairwise_ne,List.pairwise_map]at*;exact h.filter p
theorem zf0: ∀{Q:List (List Inc)} {k:Nat} {q:List Inc} (i:Inc),Q[k]? =some q->(Q.set k (q++ [i])).flatten.Perm (i::Q.flatten)
 | [],k,q,i,h=>by simp at h
 |p::Q,0,q,i,h=>by
  simp only[List.getElem?_cons_zero,Option.some.injEq]at h;subst h;rw[List.set_cons_zero,List.flatten_cons,List.flatten_cons,List.append_assoc];exact List.perm_middle
 |p::Q,k+1,q,i,h=>by
  simp only[List.getElem?_cons_succ]at h;rw[List.set_cons_succ,List.flatten_cons,List.flatten_cons];exact(List.Perm.append_left p (zf0 i h)).trans List.perm_middle
theorem zf1: ∀{Q:List (List Inc)} {k m:Nat} {q:List Inc} {x:Inc} (i:Inc),Q[k]? =some q->q[m]? =some x-> ∃X,Q.flatten.Perm (x::X)∧(Q.set k (q.set m i)).flatten.Perm (i::X)
 | [],k,m,q,x,i,h,_=>by simp at h
 |p::Q,0,m,q,x,i,h,hx=>by
  simp only[List.getElem?_cons_zero,Option.some.injEq]at h;subst h;have hm:=(List.getElem?_eq_some_iff.1 hx).1
  have e1:p=p.take m++x::p.drop (m+1):=by
   have:=List.getElem?_eq_some_iff.1 hx;rw[<-this.2,List.getElem_cons_drop,List.take_append_drop]
  have e2:p.set m i=p.take m++i::p.drop (m+1):=List.set_eq_take_append_cons_drop.trans (if_pos hm);refine⟨p.take m++p.drop (m+1)++Q.flatten,?_,?_⟩
  ·rw[List.flatten_cons]
   conv=>lhs;rw[e1]
   rw[List.append_assoc,List.append_assoc];exact List.perm_middle
  ·rw[List.set_cons_zero,List.flatten_cons,e2,List.append_assoc,List.append_assoc]
   exact List.perm_middle
 |p::Q,k+1,m,q,x,i,h,hx=>by
  simp only[List.getElem?_cons_succ]at h;obtain⟨X,h1,h2⟩:=zf1 i h hx;refine⟨p++X,?_,?_⟩
  ·rw[List.flatten_cons]
   exact(List.Perm.append_left p h1).trans List.perm_middle
  ·rw[List.set_cons_succ,List.flatten_cons]
   exact(List.Perm.append_left p h2).trans List.perm_middle
section
variable{Q:List (List Inc)} {I R:List In} {sq:Int}
theorem zbz{α:Type}: ∀{l:List α} {k:Nat} {x:α},l[k]? =some x->l.set k x=l
 | [],k,x,h=>by simp at h
 |a::l,0,x,h=>by simp at h;rw[h,List.set_cons_zero]
 |a::l,k+1,x,h=>by
  rw[List.getElem?_cons_succ]at h;rw[List.set_cons_succ,zbz h]
theorem Bt.rem{C:List In}(h:Bt Q I sq)(hp:I.Perm (C++R))(hn: ∀i∈R,∀c∈C,i.x.q≠c.x.q):Bt (yZ (C.map (·.x.q)) Q) R sq:=by
 refine⟨?_,?_,?_,fun i hi=>h.nw i (hp.mem_iff.2 (List.mem_append_right _ hi)),fun i hi=>h.sq i (hp.mem_iff.2 (List.mem_append_right _ hi))⟩
 ·rw[zc7]
  have h1:=(h.qs.trans (hp.map In.inc)).filter fun i:Inc=>decide (i.q∉C.map (·.x.q))
  rw[List.map_append,List.filter_append]at h1
  have h2:(C.map In.inc).filter (fun i:Inc=>decide (i.q∉C.map (·.x.q)))= []:=by
   refine List.filter_eq_nil_iff.2 fun i hi=> ?_
   obtain⟨c,hc,rfl⟩:=List.mem_map.1 hi;simp only[decide_eq_true_eq];exact fun h0=>h0 (List.mem_map_of_mem (f:=fun j:In=>j.x.q) hc)
  have h3:(R.map In.inc).filter (fun i:Inc=>decide (i.q∉C.map (·.x.q)))=R.map In.inc:=by
   refine List.filter_eq_self.2 fun i hi=> ?_
   obtain⟨c,hc,rfl⟩:=List.mem_map.1 hi;simp only[decide_eq_true_eq];intro hm;obtain⟨d,hd,e⟩:=List.mem_map.1 hm;exact hn c hc d hd e.symm
  rw[h2,h3,List.nil_append]at h1;exact h1
 ·intro k q hq i hi
  unfold yZ at hq;rw[List.getElem?_map]at hq;cases hk:Q[k]? with
  |none=>rw[hk]at hq;cases hq
  |some p=>
   rw[hk]at hq;injection hq with hq;subst hq;exact h.qb k p hk i (List.mem_filter.1 hi).1
 ·intro q hq
  obtain⟨p,hp,rfl⟩:=List.mem_map.1 hq;exact(h.qa p hp).filter _
theorem Bt.app{T:In}{t:Nat}{q:List Inc}(h:Bt Q R sq)(hq:Q[t]? =some q)(hb:T.x.b=(t:Int))(hs:T.x.q=sq)(hw:1<=T.wd):Bt (Q.set t (q++ [T.inc])) (T::R) (sq+1):=by
 have hql: ∀i∈q,i.q<sq:=fun i hi=>by
  obtain⟨j,hj,rfl⟩:=h.mem (List.mem_of_getElem? hq) hi;exact h.sq j hj
 have htl:=(List.getElem?_eq_some_iff.1 hq).1;refine⟨?_,?_,?_,?_,?_⟩
 ·rw[List.map_cons]
  exact(zf0 T.inc hq).trans (List.Perm.cons _ h.qs)
 ·intro k p hp i hi
  by_cases hk:k=t
  ·subst hk
   rw[List.getElem?_set_self htl]at hp;injection hp with hp;subst hp;rcases List.mem_append.1 hi with hi|hi
   ·exact h.qb k q hq i hi
   ·rw[List.mem_singleton.1 hi]
    exact hb
  ·rw[List.getElem?_set_ne (fun e=>hk e.symm)]at hp
   exact h.qb k p hp i hi
 ·intro p hp
  rcases List.mem_or_eq_of_mem_set hp with hp|rfl
  ·exact h.qa p hp
  ·refine List.pairwise_append.2 ⟨h.qa q (List.mem_of_getElem? hq),by simp,fun a ha b hb'=> ?_⟩
   rw[List.mem_singleton.1 hb'];have:=hql a ha;show a.q<T.x.q;omega
 ·intro i hi
  rcases List.mem_cons.1 hi with rfl|hi
  ·exact hw
  ·exact h.nw i hi
 ·intro i hi
  rcases List.mem_cons.1 hi with rfl|hi
  ·omega
  ·have:=h.sq i hi
   omega
theorem Bt.rep{T T0:In}{t m:Nat}{q:List Inc}{i0:Inc}(h:Bt Q (T0::R) sq)(hl:((T0::R).map (·.x.q)).Nodup)(hq:Q[t]? =some q)(hm:q[m]? =some i0)(hi0:i0.q=T0.x.q)(hx:T.x.q=T0.x.q)(hb:T.x.b=T0.x.b)(hw:1<=T.wd):Bt (Q.set t (q.set m T.inc)) (T::R) sq:=by
 have htl:=(List.getElem?_eq_some_iff.1 hq).1
 have hi:i0=T0.inc:=by
  obtain⟨j,hj,e⟩:=h.mem (List.mem_of_getElem? hq) (List.mem_of_getElem? hm);rw[e]at hi0;have:=jt (f:=fun j:In=>j.x.q) hl hj List.mem_cons_self hi0;rw[e,this]
 subst hi;refine⟨?_,?_,?_,?_,?_⟩
 ·obtain⟨X,h1,h2⟩:=zf1 T.inc hq hm
  rw[List.map_cons];refine h2.trans (List.Perm.cons _ ?_);have:=h1.symm.trans h.qs;rw[List.map_cons]at this;exact this.cons_inv
 ·intro k p hp i hi
  by_cases hk:k=t
  ·subst hk
   rw[List.getElem?_set_self htl]at hp;injection hp with hp;subst hp;rcases List.mem_or_eq_of_mem_set hi with hi|rfl
   ·exact h.qb k q hq i hi
   ·have:=h.qb k q hq _ (List.mem_of_getElem? hm)
    show T.x.b=k;rw[hb];exact this
  ·rw[List.getElem?_set_ne (fun e=>hk e.symm)]at hp
   exact h.qb k p hp i hi
 ·intro p hp
  rcases List.mem_or_eq_of_mem_set hp with hp|rfl
  ·exact h.qa p hp
  ·have ha:=h.qa q (List.mem_of_getElem? hq)
   have e:(q.set m T.inc).map (·.q)=q.map (·.q):=by
    rw[List.map_set];refine zbz ?_;rw[List.getElem?_map,hm];show some T0.x.q=some T.x.q;rw[hx]
   have h1:((q.map (·.q)).Pairwise (· < ·)):=List.pairwise_map.2 ha;rw[<-e]at h1;exact List.pairwise_map.1 h1
 ·intro i hi
  rcases List.mem_cons.1 hi with rfl|hi
  ·exact hw
  ·exact h.nw i (List.mem_cons_of_mem _ hi)
 ·intro i hi
  rcases List.mem_cons.1 hi with rfl|hi
  ·rw[hx];exact h.sq _ List.mem_cons_self
  ·exact h.sq i (List.mem_cons_of_mem _ hi)
end
theorem zd4{q:List Inc}{m:Nat}{i:Inc}(hn:(q.map (·.q)).Nodup)(hm:q[m]? =some i): ∀y∈q.take m,y.q≠i.q:=by
 intro y hy e;obtain⟨k,hk⟩:=List.mem_iff_getElem?.1 hy
 have hkl:k<m:=by
  have:=(List.getElem?_eq_some_iff.1 hk).1;rw[List.length_take]at this;omega
 rw[List.getElem?_take,if_pos hkl]at hk;have h1:(q.map (·.q))[k]? =some i.q:=by rw[List.getElem?_map,hk,Option.map_some,e]
 have h2:(q.map (·.q))[m]? =some i.q:=by rw[List.getElem?_map,hm,Option.map_some]
 have hkl2:=(List.getElem?_eq_some_iff.1 h1).1;have:=(List.getElem?_inj hkl2 hn).1 (h1.trans h2.symm);omega
theorem zq0{Q:List (List Inc)}{q0 l:List Inc}{nb j:Nat}{i:Inc}(hnd:(Q.flatten.map (·.q)).Nodup)(hq0:Q[nb]? =some q0)(hin: ∀i∈l,i∈q0)(hl:(l.map (·.q)).Nodup)(hi:l[j]? =some i):
 ∃q m,(yZ ((l.take j).map (·.q)) Q)[nb]? =some q∧q[m]? =some i∧(∀y∈q.take m,y.q≠i.q)∧(∀y∈((yZ ((l.take j).map (·.q)) Q).take nb).flatten,y.q≠i.q)∧(yZ ((l.take j).map (·.q)) Q).set nb (q.eraseIdx m)=yZ ((l.take (j+1)).map (·.q)) Q:=by
 have hq:=zi2 (zs:=(l.take j).map (·.q)) hq0;have hii:=hin i (List.mem_of_getElem? hi)
 have hiq:i.q∉(l.take j).map (·.q):=fun hm=>by
  obtain⟨y,hy,e⟩:=List.mem_map.1 hm;exact zd4 hl hi y hy e
 have him:i∈q0.filter (fun i=>decide (i.q∉(l.take j).map (·.q))):=List.mem_filter.2 ⟨hii,by simpa using hiq⟩;obtain⟨m,hm⟩:=List.mem_iff_getElem?.1 him
 have hnd':((yZ ((l.take j).map (·.q)) Q).flatten.map (·.q)).Nodup:=by
  rw[zc7];exact zd3 hnd
 refine⟨_,m,hq,hm,?_,?_,?_⟩
 ·refine zd4 ?_ hm
  have h1:=List.mem_of_getElem? hq;exact List.Pairwise.sublist ((List.sublist_flatten_of_mem h1).map _) hnd'
 ·intro y hy e
  obtain⟨p,hp,hyp⟩:=List.mem_flatten.1 hy;obtain⟨a,ha⟩:=List.mem_iff_getElem?.1 hp;have hal:=(List.getElem?_eq_some_iff.1 ha).1;rw[List.length_take]at hal;rw[List.getElem?_take,if_pos (by omega)]at ha;have hsp:=List.take_append_drop nb (yZ ((l.take j).map (·.q)) Q);have hnd2:=hnd';rw[<-hsp,List.flatten_append,List.map_append]at hnd2;refine(List.nodup_append.1 hnd2).2.2 y.q (List.mem_map_of_mem (f:=fun j:Inc=>j.q) hy) i.q (List.mem_map_of_mem (f:=fun j:Inc=>j.q) ?_) e;refine List.mem_flatten.2 ⟨_,?_,him⟩;refine List.mem_iff_getElem?.2 ⟨0,?_⟩;rw[List.getElem?_drop,Nat.add_zero];exact hq
 ·rw[zfz hnd' hq hm,List.take_add_one,hi]
  simp only[Option.toList,List.map_append,List.map_cons,List.map_nil];rw[zkk]
def wt(n:Nat)(bg:Bool)(ls:Int)(k:Nat)(i:Inc):Nat:=if k+1<n then n-k else if bg&&decide (ls<i.q)then 0 else 1
def mz(n:Nat)(bg:Bool)(ls:Int):Nat->List (List Inc) ->Nat
 |_,[]=>0
 |k,q::Q=>(q.map (wt n bg ls k)).sum+mz n bg ls (k+1) Q
section
variable{n:Nat} {bg:Bool} {ls:Int}
theorem je(f:Inc->Nat)(p:Inc->Bool): ∀q:List Inc,((q.filter p).map f).sum<=(q.map f).sum
 | []=>Nat.le_refl _
 |i::q=>by
  have:=je f p q;rw[List.filter_cons];split
  ·simp only[List.map_cons,List.sum_cons];omega
  ·simp only[List.map_cons,List.sum_cons];omega
theorem jI(f:Inc->Nat)(p:Inc->Bool): ∀{q:List Inc} {i:Inc},i∈q->p i=false->((q.filter p).map f).sum+f i<=(q.map f).sum
 | [],i,h,_=>by cases h
 |j::q,i,h,hp=>by
  rcases List.mem_cons.1 h with rfl|h
  ·have:=je f p q
   rw[List.filter_cons,if_neg (by simp[hp])];simp only[List.map_cons,List.sum_cons];omega
  ·have:=jI f p h hp
   rw[List.filter_cons];split
   ·simp only[List.map_cons,List.sum_cons];omega
   ·simp only[List.map_cons,List.sum_cons];omega
theorem zm0(zs:List Int): ∀(Q:List (List Inc)) (k:Nat),mz n bg ls k (yZ zs Q)<=mz n bg ls k Q
 | [],k=>Nat.le_refl _
 |q::Q,k=>by
  have h1:=zm0 zs Q (k+1);have h2:=je (wt n bg ls k) (fun i=>decide (i.q∉zs)) q;show((q.filter fun i=>decide (i.q∉zs)).map (wt n bg ls k)).sum+mz n bg ls (k+1) (yZ zs Q)<=(q.map (wt n bg ls k)).sum+mz n bg ls (k+1) Q;omega
theorem zc8(zs:List Int): ∀{Q:List (List Inc)} {j:Nat} {q:List Inc} {i:Inc} (k:Nat),Q[j]? =some q->i∈q->i.q∈zs->mz n bg ls k (yZ zs Q)+wt n bg ls (k+j) i<=mz n bg ls k Q
 | [],j,q,i,k,h,_,_=>by simp at h
 |p::Q,0,q,i,k,h,hi,hz=>by
  simp only[List.getElem?_cons_zero,Option.some.injEq]at h;subst h;have h1:=zm0 (n:=n) (bg:=bg) (ls:=ls) zs Q (k+1);have h2:=jI (wt n bg ls k) (fun i=>decide (i.q∉zs)) hi (by simpa using hz);show((p.filter fun i=>decide (i.q∉zs)).map (wt n bg ls k)).sum+mz n bg ls (k+1) (yZ zs Q)+wt n bg ls (k+0) i<=(p.map (wt n bg ls k)).sum+mz n bg ls (k+1) Q;have e0:wt n bg ls (k+0) i=wt n bg ls k i:=rfl;omega
 |p::Q,j+1,q,i,k,h,hi,hz=>by
  simp only[List.getElem?_cons_succ]at h;have h1:=zc8 zs (k+1) h hi hz;have h2:=je (wt n bg ls k) (fun i=>decide (i.q∉zs)) p;show((p.filter fun i=>decide (i.q∉zs)).map (wt n bg ls k)).sum+mz n bg ls (k+1) (yZ zs Q)+wt n bg ls (k+(j+1)) i<=(p.map (wt n bg ls k)).sum+mz n bg ls (k+1) Q;rw[show k+1+j=k+(j+1) by omega]at h1;omega
theorem zm1: ∀{Q:List (List Inc)} {j:Nat} {q:List Inc} (i:Inc) (k:Nat),Q[j]? =some q->mz n bg ls k (Q.set j (q++ [i]))=mz n bg ls k Q+wt n bg ls (k+j) i
 | [],j,q,i,k,h=>by simp at h
 |p::Q,0,q,i,k,h=>by
  simp only[List.getElem?_cons_zero,Option.some.injEq]at h;subst h;simp only[List.set_cons_zero,mz,List.map_append,List.map_cons,List.map_nil,List.sum_append,List.sum_cons,List.sum_nil,Nat.add_zero];omega
 |p::Q,j+1,q,i,k,h=>by
  simp only[List.getElem?_cons_succ]at h;have h1:=zm1 i (k+1) h;simp only[List.set_cons_succ,mz,h1];rw[show k+1+j=k+(j+1) by omega];omega
theorem zpi{k:Nat}{i x:Inc}(h:x.q=i.q):wt n bg ls k i=wt n bg ls k x:=by
 unfold wt;rw[h]
theorem zm2: ∀{Q:List (List Inc)} {j m:Nat} {q:List Inc} {x:Inc} (i:Inc) (k:Nat),Q[j]? =some q->q[m]? =some x->x.q=i.q->mz n bg ls k (Q.set j (q.set m i))=mz n bg ls k Q
 | [],j,m,q,x,i,k,h,_,_=>by simp at h
 |p::Q,0,m,q,x,i,k,h,hx,hxi=>by
  simp only[List.getElem?_cons_zero,Option.some.injEq]at h;subst h
  have e:(p.set m i).map (wt n bg ls k)=p.map (wt n bg ls k):=by
   rw[List.map_set];refine zbz ?_;rw[List.getElem?_map,hx,zpi hxi];rfl
  simp only[List.set_cons_zero,mz,e]
 |p::Q,j+1,m,q,x,i,k,h,hx,hxi=>by
  simp only[List.getElem?_cons_succ]at h;simp only[List.set_cons_succ,mz,zm2 i (k+1) h hx hxi]
theorem zqi(h:1<=n)(hn:n<=4): ∀(Q:List (List Inc)) (k:Nat),mz n bg ls k Q<=4*Q.flatten.length
 | [],_=>Nat.zero_le _
 |q::Q,k=>by
  have h1:=zqi h hn Q (k+1)
  have h2: ∀p:List Inc,(p.map (wt n bg ls k)).sum<=4*p.length:=fun p=>by
   induction p with
   |nil=>exact Nat.zero_le _
   |cons i p ih=>
    have:wt n bg ls k i<=4:=by
     unfold wt;split
     ·omega
     ·split<;>omega
    simp only[List.map_cons,List.sum_cons,List.length_cons];omega
  have:=h2 q;simp only[mz,List.flatten_cons,List.length_append];omega
theorem zf2{ls':Int}: ∀(Q:List (List Inc)) (k:Nat),(∀(j:Nat) (q:List Inc),Q[j]? =some q->k+j+1=n-> ∀i∈q,i.q<=ls') ->k+Q.length=n->mz n true ls' k Q=mz n false ls k Q
 | [],_,_,_=>rfl
 |q::Q,k,h,hl=>by
  have h1:=zf2 Q (k+1) (fun j p hp hj=>h (j+1) p (by simpa using hp) (by omega)) (by simp at hl;omega)
  have h2:q.map (wt n true ls' k)=q.map (wt n false ls k):=by
   refine List.map_congr_left fun i hi=> ?_
   unfold wt;by_cases hk:k+1<n
   ·rw[if_pos hk,if_pos hk]
   ·rw[if_neg hk,if_neg hk]
    have:=h 0 q rfl (by simp at hl;omega) i hi;rw[if_neg (by simp;omega),if_neg (by simp)]
  simp only[mz,h1,h2]
end
def Stp(P P':Hpl)(zs:List Int)(t:Nat):Prop:=
 P'.C=P.C∧(P'.dead=P.dead∧P'.us=P.us)∧P.sq<=P'.sq∧P'.sq<=P.sq+1∧
 (P'.Q=yZ zs P.Q∨(∃q i,(yZ zs P.Q)[t]? =some q∧i.q=P.sq∧P'.Q=(yZ zs P.Q).set t (q++ [i]))∨
   ∃q j i x,(yZ zs P.Q)[t]? =some q∧q[j]? =some x∧x.q=i.q∧P'.Q=(yZ zs P.Q).set t (q.set j i))
theorem Stp.sinks{P P':Hpl}{zs:List Int}{n nb t:Nat}{bg:Bool}{ls:Int}{q:List Inc}{i:Inc}(h:Stp P P' zs t)(hq:P.Q[nb]? =some q)(hi:i∈q)(hz:i.q∈zs)(ht:t<n)(hn:nb+1<n->nb<t)(hb:nb+1=n->bg=true∧i.q<=ls∧t=nb)(hls:nb+1=n->ls<P.sq)(hnb:nb<n):mz n bg ls 0 P'.Q<mz n bg ls 0 P.Q:=by
 have h1:=zc8 (n:=n) (bg:=bg) (ls:=ls) zs 0 hq hi hz;rw[Nat.zero_add]at h1
 have hw:1<=wt n bg ls nb i:=by
  unfold wt;by_cases hk:nb+1<n
  ·rw[if_pos hk];omega
  ·have:=hb (by omega)
   rw[if_neg hk,if_neg (by simp;omega)];exact Nat.le_refl _
 obtain⟨_,_,_,_,h2|⟨p,j,hp,hj,h2⟩|⟨p,m,j,x,hp,hx,hxj,h2⟩⟩:=h
 ·rw[h2];omega
 ·rw[h2,zm1 j 0 hp,Nat.zero_add]
  have:wt n bg ls t j<wt n bg ls nb i:=by
   by_cases hk:nb+1<n
   ·have:=hn hk
    have e:wt n bg ls nb i=n-nb:=by unfold wt;rw[if_pos hk]
    rw[e];unfold wt;split
    ·omega
    ·split<;>omega
   ·obtain⟨rfl,h4,rfl⟩:=hb (by omega)
    have:=hls (by omega);have e:wt n true ls t j=0:=by unfold wt;rw[if_neg hk,if_pos (by simp;omega)]
    omega
  omega
 ·rw[h2,zm2 j 0 hp hx hxj];omega
theorem zm3{S:Sp}{B:Nat}{I:List In}(h:Lay S B I):(I.map (·.wd)).sum<=16384:=by
 have h1: ∀J:List In,(∀i∈J,i∈I) ->(J.map (·.wd)).sum<=(used (J.map (·.x))).length*B:=by
  intro J;induction J with
  |nil=>intro _;exact Nat.zero_le _
  |cons i J ih=>
   intro hJ;have h2:=ih fun j hj=>hJ j (List.mem_cons_of_mem _ hj)
   have h3:=xL (B:=B) (by have:=h.B8;omega) (Nat.le_of_eq (h.fit i (hJ i List.mem_cons_self)));simp only[List.map_cons,List.sum_cons,used,List.flatMap_cons,List.length_append,Nat.add_mul]at*;omega
 have h2:=h1 I fun i hi=>hi
 have h3:=h.ch.len_used;have h4:=h.ch.n2.2;have h5:=h.B8.2
 calc(I.map (·.wd)).sum<=(used (I.map (·.x))).length*B:=h2
  _<=64*256:=Nat.mul_le_mul (by omega) h5
theorem zc9: ∀C:List In,((C.map In.inc).map (·.w)).sum=(((C.map (·.wd)).sum:Nat):Int)
 | []=>rfl
 |c::C=>by
  have:=zc9 C;simp only[List.map_cons,List.sum_cons]at*;rw[this];show(c.wd:Int)+_=_;omega
theorem zda{F:List Inc}(hn:(F.map (·.q)).Nodup){i:Inc}(hi:i∈F):F.find? (fun j=>decide (j.q=i.q))=some i:=by
 induction F with
 |nil=>cases hi
 |cons a F ih=>
  simp only[List.map_cons,List.nodup_cons,List.mem_map,not_exists,not_and]at hn;rcases List.mem_cons.1 hi with rfl|hi
  ·simp
  ·have: ¬a.q=i.q:=fun e=>hn.1 i hi e.symm
   rw[List.find?_cons,show decide (a.q=i.q)=false by simpa using this];exact ih hn.2 hi
structure Sp1(P:Hpl)(B:Nat)(l:List Inc)(t:Nat)(i:Inc)(C R:List In)(T0:In):Prop where
 lC:l=C.map In.inc
 tgt:i=T0.inc
 vh:Vh P.S B (T0::(R++C)) P.ss P.us P.rs
 pre: ∀j∈T0::R,j.obs≠ [] -> ∀c∈C,c.x.st<j.x.st
 tl:t<P.Q.length
 fin:(T0=⟨⟨P.sq,t,[]⟩,0,[]⟩∧Bt (yZ (l.map (·.q)) P.Q) R P.sq)∨
  (1<=T0.wd∧T0.x.b=(t:Int)∧Bt (yZ (l.map (·.q)) P.Q) (T0::R) P.sq∧∃q j,(yZ (l.map (·.q)) P.Q)[t]? =some q∧q[j]? =some T0.inc∧∀y∈q.take j,y.q≠T0.x.q)
theorem Hv.part{N:Nat}{P:Hpl}{B:Nat}{I:List In}(hv:Hv N P B I)(hN:N<=1000000){l:List Inc}(hin: ∀i∈l,i∈P.Q.flatten)(hp:vJ P.Q.flatten (l.map (·.q))=true){t:Nat}(ht:t<P.C.l.length){i:Inc}
 (hto:i=⟨P.sq,t,-1,-1,0⟩∨∃q,P.Q[t]? =some q∧q.getLast? =some i∧∀x∈l,x.q≠i.q): ∃(C R:List In) (T0:In),Sp1 P B l t i C R T0:=by
 have hl:=hv.vh.hok.lay;obtain⟨C,rest,hlC,hI,hst,hne⟩:=hv.bt.split hl hin hp;have hz:l.map (·.q)=C.map (·.x.q):=by rw[hlC,List.map_map];rfl
 have ht4:=hv.ok.good.2.2.1;have htq:t<P.Q.length:=by rw[hv.ql];exact ht
 rcases hto with rfl|⟨q,hq,hlast,hx⟩
 ·have hsq:=hv.s0
  refine⟨C,rest,⟨⟨P.sq,t,[]⟩,0,[]⟩,hlC,rfl,?_,?_,htq,.inl ⟨rfl,?_⟩⟩
  ·exact(hv.vh.perm (hI.trans List.perm_append_comm)).add0 (by omega) (by omega) fun j hj e=>by
    have:=hv.bt.sq j ((hI.trans List.perm_append_comm).mem_iff.2 hj);omega
  ·intro j hj hob c hc
   rcases List.mem_cons.1 hj with rfl|hj
   ·exact absurd rfl hob
   ·exact hst j hj c hc
  ·rw[hz];exact hv.bt.rem hI hne
 ·have hiF:i∈q:=List.mem_of_getLast? hlast
  obtain⟨T0,hT0,rfl⟩:=hv.bt.mem (List.mem_of_getElem? hq) hiF
  have hTr:T0∈rest:=by
   rcases List.mem_append.1 (hI.mem_iff.1 hT0)with hm|hm
   ·exact absurd rfl (hx T0.inc (by rw[hlC];exact List.mem_map_of_mem hm))
   ·exact hm
  obtain⟨r1,r2,hr⟩:=List.append_of_mem hTr;have hperm:rest.Perm (T0::(r1++r2)):=by rw[hr];exact List.perm_middle
  have hb:=hv.bt.qb t q hq T0.inc hiF;refine⟨C,r1++r2,T0,hlC,rfl,?_,?_,htq,.inr ⟨hv.bt.nw T0 hT0,hb,?_,?_⟩⟩
  ·exact hv.vh.perm ((hI.trans List.perm_append_comm).trans (hperm.append_right C))
  ·intro j hj _ c hc
   exact hst j (hperm.mem_iff.2 hj) c hc
  ·have:=hv.bt.rem hI hne
   rw[hz];refine⟨this.qs.trans (hperm.map _),this.qb,this.qa,fun j hj=>this.nw j (hperm.mem_iff.2 hj),fun j hj=>this.sq j (hperm.mem_iff.2 hj)⟩
  ·refine⟨_,((q.filter fun i=>decide (i.q∉l.map (·.q))).length-1),zi2 hq,?_,?_⟩
   ·obtain⟨q',rfl⟩: ∃q',q=q'++ [T0.inc]:=List.getLast?_eq_some_iff.1 hlast
    have hk:decide (T0.inc.q∉l.map (·.q))=true:=by
     simp only[decide_eq_true_eq];intro hm;obtain⟨x,hx1,e⟩:=List.mem_map.1 hm;exact hx x hx1 e
    rw[List.filter_append,List.filter_cons,if_pos hk,List.filter_nil,List.length_append];simp
   ·intro y hy
    obtain⟨q',rfl⟩: ∃q',q=q'++ [T0.inc]:=List.getLast?_eq_some_iff.1 hlast
    have hk:decide (T0.inc.q∉l.map (·.q))=true:=by
     simp only[decide_eq_true_eq];intro hm;obtain⟨x,hx1,e⟩:=List.mem_map.1 hm;exact hx x hx1 e
    rw[List.filter_append,List.filter_cons,if_pos hk,List.filter_nil,List.length_append]at hy;simp only[List.length_cons,List.length_nil,Nat.zero_add,Nat.add_sub_cancel,List.take_left']at hy;have hyq:=(List.mem_filter.1 hy).1;have:=(List.pairwise_append.1 (hv.bt.qa _ (List.mem_of_getElem? hq))).2.2 y hyq T0.inc List.mem_cons_self;show y.q≠T0.inc.q;omega
theorem Hv.behind{N:Nat}{P P':Hpl}{B:Nat}{I:List In}(hv:Hv N P B I)(hN:N<=1000000){l:List Inc}{t:Nat}{i:Inc}{C R:List In}{T0 T:In}(h1:Sp1 P B l t i C R T0)
 {S1:Sp} {M:List (AO×AO)} {sc:Nat->Nat->Prop} (hR:Rn P.S S1 B C R T0 T M sc) (hvh:Vh P'.S B (T::R) P'.ss P'.us P'.rs) (hwf:WfS P'.ss) (hC:P'.C=P.C) (hd:P'.dead=P.dead∧P'.us=P.us)
 (hcd:P'.k.cd=P.k.cd+(l.map (·.w)).sum) (hcp:P'.k.cp=P.k.cp+((T.wd:Int) -T0.wd))
 (hQ:(1<=T0.wd∧P'.sq=P.sq∧∃q j,(yZ (l.map (·.q)) P.Q)[t]? =some q∧q[j]? =some T0.inc∧P'.Q=(yZ (l.map (·.q)) P.Q).set t (q.set j T.inc))∨
   (T0.wd=0∧1<=T.wd∧P'.sq=P.sq+1∧∃q,(yZ (l.map (·.q)) P.Q)[t]? =some q∧P'.Q=(yZ (l.map (·.q)) P.Q).set t (q++ [T.inc]))∨
   (T0.wd=0∧T.wd=0∧P'.sq=P.sq∧P'.Q=yZ (l.map (·.q)) P.Q)):(∃I',Hv (N+1) P' B I')∧Stp P P' (l.map (·.q)) t:=by
 have hs0:=hv.s0;have hct:=hv.ct;have hl0:=h1.vh.hok.lay;have hsum:(l.map (·.w)).sum=(((C.map (·.wd)).sum:Nat):Int):=by rw[h1.lC];exact zc9 C
 have hmv:(M.map (·.1.n)).sum<=(C.map (·.wd)).sum:=by
  have:=zeu (B:=B) C (M.map (·.1)) (fun c hc=>hl0.tile c (List.mem_cons_of_mem _ (List.mem_append_right _ hc))) (by
   have:=hR.cy.nd;refine xY (fun o:AO=>o.f 0) ?_;rw[List.map_map];exact this) (fun o ho=>by
   obtain⟨p,hp,rfl⟩:=List.mem_map.1 ho;exact(hR.cy.old p hp).1)
  rw[List.map_map]at this;exact this
 have hwd:=hR.wd
 have hcs:(C.map (·.wd)).sum<=16384:=by
  have:=zm3 hl0;rw[List.map_cons,List.sum_cons,List.map_append,List.sum_append]at this;omega
 have hct':0<=P'.k.cp∧P'.k.cp<=P'.k.cd∧P'.k.cd<=((N+1:Nat):Int)*16384:=by
  rw[hcd,hcp,hsum];omega
 have hQl:P'.Q.length=P'.C.l.length:=by
  rw[hC,<-hv.ql];rcases hQ with⟨_,_,q,j,_,_,e⟩|⟨_,_,_,q,_,e⟩|⟨_,_,_,e⟩
  ·rw[e,List.length_set,ju]
  ·rw[e,List.length_set,ju]
  ·rw[e,ju]
 rcases hQ with⟨hw0,hsq,q,j,hq,hj,hQ⟩|⟨hw0,hw1,hsq,q,hq,hQ⟩|⟨hw0,hw1,hsq,hQ⟩
 ·rcases h1.fin with⟨e,_⟩|⟨_,hb,hbt,_⟩
  ·rw[e]at hw0
   simp at hw0
  ·refine⟨⟨T::R,hvh,hwf,hC▸hv.ok,hQl,?_,by omega,hct'⟩,hC,hd,by omega,by omega,.inr (.inr ⟨q,j,T.inc,T0.inc,hq,hj,hR.q.symm,hQ⟩)⟩
   rw[hQ,hsq]
   have hl1:((T0::R).map (·.x.q)).Nodup:=by
    have:=hl0.ch.sq;rw[List.map_map,List.map_cons,List.map_append,<-List.cons_append]at this;exact(List.nodup_append.1 this).1
   exact hbt.rep hl1 hq hj rfl hR.q hR.b (by omega)
 ·rcases h1.fin with⟨e,hbt⟩|⟨hb,_⟩
  ·refine⟨⟨T::R,hvh,hwf,hC▸hv.ok,hQl,?_,by omega,hct'⟩,hC,hd,by omega,by omega,.inr (.inl ⟨q,T.inc,hq,?_,hQ⟩)⟩
   ·rw[hQ,hsq]
    exact hbt.app hq (by rw[hR.b,e]) (by rw[hR.q,e]) hw1
   ·show T.x.q=P.sq
    rw[hR.q,e]
  ·omega
 ·rcases h1.fin with⟨e,hbt⟩|⟨hb,_⟩
  ·refine⟨⟨R,?_,hwf,hC▸hv.ok,hQl,?_,by omega,hct'⟩,hC,hd,by omega,by omega,.inl hQ⟩
   ·have hfit:=hvh.hok.lay.fit T List.mem_cons_self
    have htile:=hvh.hok.lay.tile T List.mem_cons_self;have hB:=hvh.hok.lay.B8;rw[hw1,zby B hB.1]at hfit;have hc:T.x.c= []:=List.eq_nil_of_length_eq_zero hfit.symm
    have ho:T.obs= []:=by
     cases hob:T.obs with
     |nil=>rfl
     |cons b l'=>
      rw[hob]at htile;have h1:=yS.mem htile b List.mem_cons_self;have:1<=b.n:=by unfold Ob.n;omega
      omega
    have hT:T=⟨⟨T.x.q,T.x.b,[]⟩,0,[]⟩:=by
     obtain⟨⟨a,b,c⟩,wd,ob⟩:=T;simp only at hc ho hw1;subst hc ho hw1;rfl
    rw[hT]at hvh;exact hvh.del0
   ·rw[hQ,hsq]
    exact hbt
  ·omega
def puts(xs:List Int):List (Nat×Int) ->List Int
 | []=>xs
 |p::ps=>puts (xs.set p.1 p.2) ps
theorem qA: ∀(ps:List (Nat×Int)) (xs:List Int),(puts xs ps).length=xs.length
 | [],_=>rfl
 |p::ps,xs=>by rw[puts,qA ps,List.length_set]
theorem zai: ∀(ps:List (Nat×Int)) (xs:List Int) (p:Nat×Int),puts xs (ps++ [p])=(puts xs ps).set p.1 p.2
 | [],_,_=>rfl
 |q::ps,xs,p=>by rw[List.cons_append,puts,zai ps,puts]
theorem ko: ∀(ps:List (Nat×Int)) (xs:List Int) (k:Nat),k∉ps.map (·.1) ->(puts xs ps)[k]? =xs[k]?
 | [],_,_,_=>rfl
 |p::ps,xs,k,h=>by
  simp only[List.map_cons,List.mem_cons,not_or]at h;rw[puts,ko ps _ k h.2,List.getElem?_set_ne (fun e=>h.1 e.symm)]
theorem zd5: ∀{ps:List (Nat×Int)} {xs:List Int} {p:Nat×Int},(ps.map (·.1)).Nodup->p∈ps->p.1<xs.length->(puts xs ps)[p.1]? =some p.2
 | [],_,_,_,h,_=>by cases h
 |q::ps,xs,p,hn,h,hl=>by
  simp only[List.map_cons,List.nodup_cons]at hn;rcases List.mem_cons.1 h with rfl|h
  ·rw[puts,ko ps _ _ hn.1,List.getElem?_set_self hl]
  ·rw[puts,zd5 hn.2 h (by rw[List.length_set];exact hl)]
theorem zf3{hs:List Nat}{zs:List Int}{j x:Nat}{z:Int}(hx:hs[j]? =some x)(hz:zs[j]? =some z):(hs.zip zs).take (j+1)=(hs.zip zs).take j++ [(x,z)]:=by
 rw[List.take_add_one];congr 1;rw[(List.getElem?_zip_eq_some (z:=(x,z))).2 ⟨hx,hz⟩];rfl
theorem kp{hs:List Nat}{zs:List Int}(h:hs.length<=zs.length):(hs.zip zs).map (·.1)=hs:=List.map_fst_zip h
theorem Chs.puts{S:Sp}{L:List Ch}{B:Nat}(hB:2^S.sh=B): ∀(ps:List (Nat×Int)) (ws:List Int),Chs ⟨S.sh,ws,S.fs⟩ L->(∀p∈ps,∃x∈L,∃q,q<x.c.length*B∧p.1=zy x.c B q) ->Chs ⟨S.sh,Go.Proofs.YtopcdfbplknmlaaGreat.puts ws ps,S.fs⟩ L
 | [],_,h,_=>h
 |p::ps,ws,h,hp=>by
  obtain⟨x,hx,q,hq,e⟩:=hp p List.mem_cons_self;have:=(h.word hx hB hq p.2).2;rw[<-e]at this;exact Chs.puts hB ps _ this fun p' hp'=>hp p' (List.mem_cons_of_mem _ hp')
theorem kt{S:Sp}{us:List Bool}{rs:List Int}{l:List Inc}{x:Nat}:x∈xW S us rs l↔∃k,x=k+1∧us[k]? =some true∧yT S l (rs.getD k 0)=true:=by
 unfold xW;rw[List.mem_filter,ze5];constructor
 ·rintro⟨⟨k,rfl,hk⟩,hw⟩
  exact⟨k,rfl,hk,by simpa using hw⟩
 ·rintro⟨k,rfl,hk,hw⟩
  exact⟨⟨k,rfl,hk⟩,by simpa using hw⟩
theorem zhj(S:Sp)(us:List Bool)(rs:List Int)(l:List Inc):((xW S us rs l).map (· -1)).Nodup:=by
 have h1:((xp us us.length).map (· -1)).Nodup:=by
  unfold xp;rw[List.map_map];have:((fun x:Nat=>x-1)∘fun x=>x+1)=id:=by funext x;simp
  rw[this,List.map_id];exact List.nodup_range.filter _
 unfold xW;rw[List.nodup_iff_pairwise_ne,List.pairwise_map]at*;exact h1.filter _
theorem zm4(S:Sp)(us:List Bool)(rs:List Int)(l:List Inc):(xW S us rs l).length<=us.length:=by
 unfold xW;exact Nat.le_trans (List.length_filter_le _ _) (kh us us.length)
section
variable{S:Sp} {B:Nat} {I C:List In} {l:List Inc}
theorem Lay.ad(h:Lay S B I){v:Int}(hv:Ptr (aos B I) v):adW S v:=by
 rcases hv with rfl|⟨o,ho,rfl⟩
 ·exact .inl rfl
 ·obtain⟨i,hi,b,hb,rfl⟩:=zK.1 ho
  obtain⟨F,_,_,_,_,hlt⟩:=h.owner hi hb (k:=0) (by unfold Ob.n;omega);exact .inr ⟨_,rfl,hlt⟩
theorem zd6(h:Chs S (I.map (·.x)))(hC: ∀c∈C,c∈I)(hl:LiC l C){f:Nat}:frB S.fs l f=true↔Fc C f:=by
 unfold frB Fc;constructor
 ·intro hf
  cases hF:S.fs[f]? with
  |none=>rw[hF]at hf;simp at hf
  |some F=>
   rw[hF]at hf;simp only[Option.any_some,List.any_eq_true,decide_eq_true_eq]at hf;obtain⟨i,hi,e⟩:=hf;have hiq:i.q∈C.map (·.x.q):=by rw[<-hl];exact List.mem_map_of_mem (f:=fun j:Inc=>j.q) hi
   obtain⟨c,hc,ec⟩:=List.mem_map.1 hiq;have hcm:c.x∈I.map (·.x):=List.mem_map_of_mem (f:=fun j:In=>j.x) (hC c hc);rcases h.cases hF with⟨rfl,_⟩|⟨x,hx,p,hp,rfl⟩
   ·have:=(h.ids c.x hcm).1
    have e':(-1:Int)=i.q:=e;omega
   ·have e':x.q=i.q:=e
    have:x=c.x:=h.same hx hcm (by rw[e',<-ec]);subst this;exact⟨c,hc,List.mem_of_getElem? hp⟩
 ·rintro⟨c,hc,hf⟩
  have hcm:c.x∈I.map (·.x):=List.mem_map_of_mem (f:=fun j:In=>j.x) (hC c hc);obtain⟨p,hp⟩:=List.mem_iff_getElem?.1 hf;rw[h.fr c.x hcm p f hp];simp only[Option.any_some,List.any_eq_true,decide_eq_true_eq];have:c.x.q∈l.map (·.q):=by rw[hl];exact List.mem_map_of_mem (f:=fun j:In=>j.x.q) hc
  obtain⟨i,hi,e⟩:=List.mem_map.1 this;exact⟨i,hi,e.symm⟩
theorem zpj(h:Lay S B I)(hC: ∀c∈C,c∈I)(hl:LiC l C){v:Int}(hv:adW S v):yT S l v=true↔Win C B S.ws.length v:=by
 unfold yT Win;rw[h.pow,Bool.and_eq_true,decide_eq_true_eq,zd6 h.ch hC hl];constructor
 ·rintro⟨h1,h2⟩
  rcases hv with rfl|⟨u,rfl,hu⟩
  ·omega
  ·refine⟨u,rfl,hu,?_⟩
   rw[show((u:Int)+1-1).toNat=u by omega]at h2;exact h2
 ·rintro⟨a,rfl,ha,hf⟩
  refine⟨by omega,?_⟩;rw[show((a:Int)+1-1).toNat=a by omega];exact hf
end
structure Cpd(P:Hpl)(B:Nat)(l:List Inc)(C R:List In)(T0:In)(o:List Nat)(S1:Sp)(T:In)(M:List (AO×AO))(zs':List Int):Prop where
 vh:Vh P.S B (T0::(R++C)) P.ss P.us P.rs
 lC:l=C.map In.inc
 oA:Asc o
 oM: ∀t,t∈o↔jm (qn P.S.fs l P.S.fs.length) P.ss t∧yT P.S l (P.S.w t)=true
 run:Rn P.S S1 B C R T0 T M (scR M.length 0)
 zl:zs'.length=(xW P.S P.us P.rs l).length+o.length
 fw:jP (aos B C) ((xW P.S P.us P.rs l).map (fun x=>P.rs.getD (x-1) 0)++o.map P.S.w) zs' M
section
variable{P:Hpl} {B:Nat} {l:List Inc} {C R:List In} {T0:In} {o:List Nat} {S1:Sp} {T:In} {M:List (AO×AO)} {zs':List Int}
theorem liC(h:l=C.map In.inc):LiC l C:=by
 unfold LiC;rw[h,List.map_map];rfl
theorem Cpd.subC(_:Cpd P B l C R T0 o S1 T M zs'): ∀c∈C,c∈T0::(R++C):=fun _ hc=>List.mem_cons_of_mem _ (List.mem_append_right _ hc)
theorem zi3(hvh:Vh P.S B (T0::(R++C)) P.ss P.us P.rs)(hlC:l=C.map In.inc){t:Nat}(ht:jm (qn P.S.fs l P.S.fs.length) P.ss t): ∃b∈aos B (T0::R),∃e,e<b.r∧t=b.f (1+e):=by
 obtain⟨x,hx,_,hf,hm⟩:=ht;obtain⟨b,hb,e,he,hte,hfe⟩:=hvh.ss x hx t hm;have hC: ∀c∈C,c∈T0::(R++C):=fun _ hc=>List.mem_cons_of_mem _ (List.mem_append_right _ hc)
 refine⟨b,?_,e,he,hte⟩;obtain⟨i,hi,b',hb',eb⟩:=zK.1 hb;rcases List.mem_cons.1 hi with rfl|hi
 ·exact zK.2 ⟨_,List.mem_cons_self,b',hb',eb⟩
 ·rcases List.mem_append.1 hi with hi|hi
  ·exact zK.2 ⟨_,List.mem_cons_of_mem _ hi,b',hb',eb⟩
  ·exfalso
   refine hf (zbq.2 ((zd6 hvh.hok.lay.ch hC (liC hlC)).2 ?_));have:=zij hvh.hok.lay hC (zK.2 ⟨i,hi,b',hb',eb⟩:b∈aos B C) (k:=1+e) (by unfold AO.n;omega);rw[hfe,hte];exact this
theorem kw(hvh:Vh P.S B (T0::(R++C)) P.ss P.us P.rs){t:Nat}{x:St}(hx:x∈P.ss)(ht:t∈x.l):t<P.S.ws.length∧Ptr (aos B (T0::(R++C))) (P.S.w t):=by
 obtain⟨b,hb,e,he,rfl,_⟩:=hvh.ss x hx t ht;refine⟨?_,hvh.hok.refs b hb e he⟩;obtain⟨i,hi,b',hb',rfl⟩:=zK.1 hb;obtain⟨F,_,_,_,_,hlt⟩:=hvh.hok.lay.owner hi hb' (k:=1+e) (by have:e<b'.r:=he;unfold Ob.n;omega);exact hlt
theorem zi4{O:List AO}{u:List Bool}{r:List Int}(h:Rok O u r){k:Nat}{v:Int}(hv:r[k]? =some v):Ptr O v:=by
 have hl:=(List.getElem?_eq_some_iff.1 hv).1;obtain⟨b,hb⟩: ∃b,u[k]? =some b:=⟨_,List.getElem?_eq_getElem (by rw[h.1];rw[h.2.1]at hl;exact hl)⟩;obtain⟨h1,h2⟩:=h.2.2 k b v hb hv;cases b with
 |false=>exact .inl (h1 rfl)
 |true=>exact .inr (h2 rfl)
theorem zq1(hvh:Vh P.S B (T0::(R++C)) P.ss P.us P.rs)(hoM: ∀t∈o,jm (qn P.S.fs l P.S.fs.length) P.ss t): ∀v∈(xW P.S P.us P.rs l).map (fun x=>P.rs.getD (x-1) 0)++o.map P.S.w,Ptr (aos B (T0::(R++C))) v:=by
 intro v hv;rcases List.mem_append.1 hv with hv|hv
 ·obtain⟨x,hx,rfl⟩:=List.mem_map.1 hv
  obtain⟨k,rfl,hk,_⟩:=kt.1 hx
  have hkl:k<P.rs.length:=by
   have:=(List.getElem?_eq_some_iff.1 hk).1;rw[hvh.rt.1]at this;rw[hvh.rt.2.1];exact this
  refine zi4 hvh.rt (k:=k) ?_;rw[show k+1-1=k by omega,List.getD_eq_getElem?_getD,List.getElem?_eq_getElem hkl];rfl
 ·obtain⟨t,ht,rfl⟩:=List.mem_map.1 hv
  obtain⟨x,hx,_,_,hm⟩:=hoM t ht;exact(kw hvh hx hm).2
theorem Cpd.hsl(h:Cpd P B l C R T0 o S1 T M zs')(t:Nat):t∈o↔(∃x∈P.ss,Fc C x.g∧¬Fc C x.f∧t∈x.l)∧Win C B P.S.ws.length (P.S.w t):=by
 rw[h.oM];have hf: ∀f,f∈qn P.S.fs l P.S.fs.length↔Fc C f:=fun f=>zbq.trans (zd6 h.vh.hok.lay.ch h.subC (liC h.lC))
 have key: ∀x∈P.ss,t∈x.l->(yT P.S l (P.S.w t)=true↔Win C B P.S.ws.length (P.S.w t)):=fun x hx ht=>zpj h.vh.hok.lay h.subC (liC h.lC) (h.vh.hok.lay.ad (kw h.vh hx ht).2)
 unfold jm;constructor
 ·rintro⟨⟨x,hx,h1,h2,h3⟩,h4⟩
  exact⟨⟨x,hx,(hf _).1 h1,fun h=>h2 ((hf _).2 h),h3⟩,(key x hx h3).1 h4⟩
 ·rintro⟨⟨x,hx,h1,h2,h3⟩,h4⟩
  exact⟨⟨x,hx,(hf _).2 h1,fun h=>h2 ((hf _).1 h),h3⟩,(key x hx h3).2 h4⟩
theorem Cpd.roots(h:Cpd P B l C R T0 o S1 T M zs'){r2:List Int}(hr:r2=puts P.rs (((xW P.S P.us P.rs l).map (· -1)).zip zs')):r2.length=32∧∀(k:Nat) (v v2:Int),P.rs[k]? =some v->r2[k]? =some v2->Fwd (aos B C) M v v2∨(P.us[k]? =some false∧v2=v):=by
 subst hr;refine⟨by rw[qA];exact h.vh.rt.2.1,fun k v v2 hv hv2=> ?_⟩;have hkl:=(List.getElem?_eq_some_iff.1 hv).1;obtain⟨b,hb⟩: ∃b,P.us[k]? =some b:=⟨_,List.getElem?_eq_getElem (by rw[h.vh.rt.1];rw[h.vh.rt.2.1]at hkl;exact hkl)⟩;have hlen:((xW P.S P.us P.rs l).map (· -1)).length<=zs'.length:=by rw[List.length_map,h.zl];omega
 have hgd:P.rs.getD k 0=v:=by rw[List.getD_eq_getElem?_getD,hv];rfl
 by_cases hin:k∈(xW P.S P.us P.rs l).map (· -1)
 ·left
  obtain⟨m,hm⟩:=List.mem_iff_getElem?.1 hin;have hml:=(List.getElem?_eq_some_iff.1 hm).1;obtain⟨z,hz⟩: ∃z,zs'[m]? =some z:=⟨_,List.getElem?_eq_getElem (by omega)⟩;have h1:(k,z)∈((xW P.S P.us P.rs l).map (· -1)).zip zs':=List.mem_of_getElem? (i:=m) (List.getElem?_zip_eq_some.2 ⟨hm,hz⟩);have h2:=zd5 (xs:=P.rs) (by rw[kp hlen];exact zhj _ _ _ _) h1 hkl;rw[h2]at hv2;injection hv2 with hv2;subst hv2;refine h.fw m v z ?_ hz;rw[List.length_map]at hml;rw[List.getElem?_append_left (by rw[List.length_map];exact hml),List.getElem?_map];rw[List.getElem?_map]at hm;cases hx:(xW P.S P.us P.rs l)[m]? with
  |none=>rw[hx]at hm;cases hm
  |some x=>
   rw[hx]at hm;simp only[Option.map_some,Option.some.injEq]at hm;rw[Option.map_some,hm,hgd]
 ·have h2:=ko (((xW P.S P.us P.rs l).map (· -1)).zip zs') P.rs k (by rw[kp hlen];exact hin)
  rw[h2,hv]at hv2;injection hv2 with hv2;subst hv2;cases b with
  |false=>exact .inr ⟨hb,rfl⟩
  |true=>
   left;refine .inl ⟨rfl,fun o' ho' e=> ?_⟩;have hw:=zmd (Rn.start (sc:=fun _ _=>False) h.vh.hok.lay) (liC h.lC) ho';rw[<-e]at hw;refine hin (List.mem_map.2 ⟨k+1,kt.2 ⟨k,rfl,hb,by rw[hgd];exact hw⟩,by omega⟩)
theorem Cpd.words(h:Cpd P B l C R T0 o S1 T M zs'){ws:List Int}(hw:ws=puts S1.ws (o.zip (zs'.drop (xW P.S P.us P.rs l).length))):
 ws.length=S1.ws.length∧(∀t,t∉o->(⟨S1.sh,ws,S1.fs⟩:Sp).w t=S1.w t)∧(∀t,t∈o->Fwd (aos B C) M (P.S.w t) ((⟨S1.sh,ws,S1.fs⟩:Sp).w t))∧Chs ⟨S1.sh,ws,S1.fs⟩ ((T::(R++C)).map (·.x)):=by
 subst hw;have hlen:o.length<=(zs'.drop (xW P.S P.us P.rs l).length).length:=by rw[List.length_drop,h.zl];omega
 have hslot: ∀t∈o,∃b∈aos B (T0::R),∃e,e<b.r∧t=b.f (1+e):=fun t ht=>zi3 h.vh h.lC ((h.oM t).1 ht).1
 have hsl1: ∀t∈o,∃x∈(T::(R++C)).map (·.x),∃q,q<x.c.length*B∧t=zy x.c B q:=fun t ht=>by
  obtain⟨b,hb,e,he,rfl⟩:=hslot t ht;obtain⟨i,hi,b',hb',rfl⟩:=zK.1 (h.run.old3 h.vh.hok.lay hb);have hk:1+e<b'.n:=by have:e<b'.r:=he;unfold Ob.n;omega
  have hi':i∈T::(R++C):=by
   rcases List.mem_cons.1 hi with rfl|hi
   ·exact List.mem_cons_self
   ·exact List.mem_cons_of_mem _ (List.mem_append_left _ hi)
  exact⟨i.x,List.mem_map_of_mem (f:=fun j:In=>j.x) hi',b'.o+(1+e),h.run.lay.in_ hi' hb' hk,yn hk⟩
 refine⟨qA _ _,fun t ht=> ?_,fun t ht=> ?_,?_⟩
 ·unfold Sp.w
  rw[List.getD_eq_getElem?_getD,List.getD_eq_getElem?_getD,ko _ _ _ (by rw[kp hlen];exact ht)]
 ·obtain⟨m,hm⟩:=List.mem_iff_getElem?.1 ht
  have hml:=(List.getElem?_eq_some_iff.1 hm).1;obtain⟨z,hz⟩: ∃z,(zs'.drop (xW P.S P.us P.rs l).length)[m]? =some z:=⟨_,List.getElem?_eq_getElem (by omega)⟩;have h1:(t,z)∈o.zip (zs'.drop (xW P.S P.us P.rs l).length):=List.mem_of_getElem? (i:=m) (List.getElem?_zip_eq_some.2 ⟨hm,hz⟩)
  have htl:t<S1.ws.length:=by
   rw[h.run.ln.1];obtain⟨x,hx,_,_,hxm⟩:=((h.oM t).1 ht).1;exact(kw h.vh hx hxm).1
  have h2:=zd5 (xs:=S1.ws) (by rw[kp hlen];exact vE h.oA) h1 htl
  have h3:(⟨S1.sh,puts S1.ws (o.zip (zs'.drop (xW P.S P.us P.rs l).length)),S1.fs⟩:Sp).w t=z:=by
   unfold Sp.w;rw[List.getD_eq_getElem?_getD,h2];rfl
  rw[h3];rw[List.getElem?_drop]at hz;refine h.fw _ _ _ ?_ hz;rw[List.getElem?_append_right (by rw[List.length_map];omega),List.length_map,show(xW P.S P.us P.rs l).length+m-(xW P.S P.us P.rs l).length=m by omega,List.getElem?_map,hm];rfl
 ·have hB:2^S1.sh=B:=by rw[h.run.ln.2.2];exact h.vh.hok.lay.pow
  refine Chs.puts hB _ _ h.run.lay.ch fun p hp=>hsl1 p.1 ?_
  have:=List.mem_map_of_mem (f:=fun q:Nat×Int=>q.1) hp;rw[kp hlen]at this;exact this
theorem Cpd.renew(h:Cpd P B l C R T0 o S1 T M zs'){ws:List Int}(hw:ws=puts S1.ws (o.zip (zs'.drop (xW P.S P.us P.rs l).length))):
 (∀t∈o,t<ws.length∧adW ⟨S1.sh,ws,S1.fs⟩ ((⟨S1.sh,ws,S1.fs⟩:Sp).w t))∧(∀p∈M,zr1 ⟨S1.sh,ws,S1.fs⟩ ((T::(R++C)).map (·.x)) B p.2)∧M.length<=100000:=by
 obtain⟨hwl,hno,hyes,_⟩:=h.words hw;have hl0:=h.vh.hok.lay
 have hfad: ∀v v',Ptr (aos B (T0::(R++C))) v->Fwd (aos B C) M v v'->adW ⟨S1.sh,ws,S1.fs⟩ v':=by
  intro v v' hv hf;rcases hf with⟨rfl,_⟩|⟨p,hp,_,rfl⟩
  ·have:=h.run.ad hl0 hv
   rcases this with e|⟨u,e,hu⟩
   ·exact .inl e
   ·exact .inr ⟨u,e,by show u<ws.length;omega⟩
  ·obtain⟨b,hb,e⟩:=h.run.new_ hp
   obtain⟨F,_,_,_,_,hlt⟩:=h.run.lay.owner List.mem_cons_self hb (k:=0) (by unfold Ob.n;omega);exact .inr ⟨_,rfl,by show p.2.f 0<ws.length;rw[e,hwl];exact hlt⟩
 refine⟨fun t ht=> ?_,fun p hp=> ?_,?_⟩
 ·obtain⟨x,hx,_,_,hxm⟩:=((h.oM t).1 ht).1
  obtain⟨h1,h2⟩:=kw h.vh hx hxm;exact⟨by rw[hwl,h.run.ln.1];exact h1,hfad _ _ h2 (hyes t ht)⟩
 ·obtain⟨b,hb,e⟩:=h.run.new_ hp
  obtain⟨ho,hr,hd,_⟩:=h.run.cy.old p hp;have hsub:=qK (B:=B) (fun c hc=>h.subC c hc) ho;obtain⟨a1,a2,a3⟩:=h.vh.hok.head p.1 hsub;have hbr:b.r=p.1.r:=by rw[<-hr,e];rfl
  have hbd:b.d=p.1.d:=by rw[<-hd,e];rfl
  have hno': ∀k,k<b.n->(⟨S1.sh,ws,S1.fs⟩:Sp).w (p.2.f k)=S1.w (p.2.f k):=fun k hk=>hno _ fun hm=>by
   obtain⟨a,ha,e',he',ht⟩:=zi3 h.vh h.lC ((h.oM _).1 hm).1;exact(h.run.away hl0 ha (k:=1+e') (by unfold AO.n;omega)).2.1 p hp k (by rw[e];exact hk) ht.symm
  have hlt: ∀k,k<b.n->p.2.f k<S1.ws.length:=fun k hk=>by
   obtain⟨F,_,_,_,_,hlt⟩:=h.run.lay.owner List.mem_cons_self hb hk;rw[e];exact hlt
  have hf: ∀k,k<b.n->p.2.f k=zy T.x.c B (b.o+k):=fun k hk=>by rw[e];exact yn hk
  refine⟨T.x,List.mem_cons_self,b,e,h.run.lay.bd List.mem_cons_self hb,by omega,by omega,?_,fun k hk=> ?_⟩
  ·have h0:0<b.n:=by unfold Ob.n;omega
   have h1:=hno' 0 h0;rw[h.run.cy.newh p hp,a3,hf 0 h0,Nat.add_zero]at h1;have h2:=hlt 0 h0;rw[hf 0 h0,Nat.add_zero]at h2;rw[hbr,hbd,<-h1];unfold Sp.w;rw[List.getD_eq_getElem?_getD];show ws[_]? =_;rw[List.getElem?_eq_getElem (by omega)];rfl
  ·have hk1:1+k<b.n:=by unfold Ob.n;omega
   rw[<-hf (1+k) hk1,hno' _ hk1];refine⟨by show _<ws.length;rw[hwl];exact hlt _ hk1,?_⟩;obtain⟨m,hm⟩:=List.mem_iff_getElem?.1 hp;have hml:=(List.getElem?_eq_some_iff.1 hm).1;exact hfad _ _ (h.vh.hok.refs p.1 hsub k (by omega)) ((h.run.cy.newr m p hm k (by omega)).1 (.inl hml))
 ·have hmv:=zeu (B:=B) C (M.map (·.1)) (fun c hc=>hl0.tile c (h.subC c hc)) (by
   have:=h.run.cy.nd;refine xY (fun o:AO=>o.f 0) ?_;rw[List.map_map];exact this) (fun o ho=>by
   obtain⟨p,hp,rfl⟩:=List.mem_map.1 ho;exact(h.run.cy.old p hp).1)
  have hcs:=zm3 hl0;rw[List.map_cons,List.sum_cons,List.map_append,List.sum_append]at hcs
  have h1: ∀L:List AO,L.length<=(L.map AO.n).sum:=fun L=>by
   induction L with
   |nil=>exact Nat.le_refl _
   |cons a L ih=>
    simp only[List.length_cons,List.map_cons,List.sum_cons];unfold AO.n at*;omega
  have:=h1 (M.map (·.1));rw[List.length_map]at this;omega
theorem Cpd.behind(h:Cpd P B l C R T0 o S1 T M zs')(pre: ∀j∈T0::R,j.obs≠ [] -> ∀c∈C,c.x.st<j.x.st){ws:List Int}(hw:ws=puts S1.ws (o.zip (zs'.drop (xW P.S P.us P.rs l).length))){r2:List Int}(hr:r2=puts P.rs (((xW P.S P.us P.rs l).map (· -1)).zip zs'))
 {ss':List St} (hss:zaz ⟨S1.sh,ws,S1.fs⟩ B (qH (qn S1.fs l S1.fs.length) P.ss) (zjw o M) ss') {S3:Sp} (h3:Chs S3 ((T::R).map (·.x))) (h3s:S3.sh=S1.sh) (h3w: ∀t,¬Fc C (t/B) ->S3.w t=(⟨S1.sh,ws,S1.fs⟩:Sp).w t):Vh S3 B (T::R) ss' P.us r2:=by
 obtain⟨hwl,hno,hyes,_⟩:=h.words hw;obtain⟨hrl,hrf⟩:=h.roots hr;have hC1: ∀c∈C,c∈T::(R++C):=fun _ hc=>List.mem_cons_of_mem _ (List.mem_append_right _ hc)
 have hf: ∀f,f∈qn S1.fs l S1.fs.length↔Fc C f:=fun f=>zbq.trans (zd6 h.run.lay.ch hC1 (liC h.lC))
 refine zor (S2:=⟨S1.sh,ws,S1.fs⟩) h.vh h.run (fun i e hi=> .inl hi) pre h.hsl hno hyes rfl hwl hrl hrf (fun x hx=>⟨(hss.1.2 x hx).1,(hss.1.2 x hx).2.1⟩) (fun f g t=> ?_) h3 h3s rfl h3w;rw[hss.2,zl5,hf,hf]
 have hT:zjw o M t↔(t∈o∨∃p∈M,∃e,e<p.1.r∧t=p.2.f (1+e)):=by
  unfold zjw vv;constructor
  ·rintro(hm|⟨p,hp,hm⟩)
   ·exact .inl hm
   ·obtain⟨e,he,rfl⟩:=List.mem_map.1 hm
    have:=(h.run.cy.old p hp).2.1;exact .inr ⟨p,hp,e,by rw[<-this];exact List.mem_range.1 he,rfl⟩
  ·rintro(hm|⟨p,hp,e,he,rfl⟩)
   ·exact .inl hm
   ·have:=(h.run.cy.old p hp).2.1
    exact .inr ⟨p,hp,List.mem_map.2 ⟨e,List.mem_range.2 (by rw[this];exact he),rfl⟩⟩
 rw[hT]
end
structure Clr(S2 S3:Sp)(B:Nat)(X C:List In)(j:Nat):Prop where
 ch:Chs S3 ((X++C.drop j).map (·.x))
 sh:S3.sh=S2.sh
 wl:S3.ws.length=S2.ws.length
 fl:S3.fs.length=S2.fs.length
 ws: ∀t,¬Fc C (t/B) ->S3.w t=S2.w t
theorem Clr.start{S2:Sp}{B:Nat}{X C:List In}(h:Chs S2 ((X++C).map (·.x))):Clr S2 S2 B X C 0:=⟨h,rfl,rfl,rfl,fun _ _=>rfl⟩
theorem Clr.first{S2 S3:Sp}{B:Nat}{X C:List In}{j:Nat}(h:Clr S2 S3 B X C j){c:In}(hc:C[j]? =some c):Chs S3 (c.x::(X++C.drop (j+1)).map (·.x)):=by
 have hl:=(List.getElem?_eq_some_iff.1 hc).1
 have e:C.drop j=c::C.drop (j+1):=by
  rw[<-(List.getElem?_eq_some_iff.1 hc).2,List.getElem_cons_drop]
 have:=h.ch;rw[e]at this;refine this.perm ?_;rw[<-List.map_cons];exact List.Perm.map _ List.perm_middle
theorem Clr.step{S2 S3:Sp}{B:Nat}{X C:List In}{j:Nat}(h:Clr S2 S3 B X C j)(hB:2^S2.sh=B){c:In}(hc:C[j]? =some c){fs:List Fr}{ws:List Int}(hI:ClI S3 c.x.c B S3.fs.length fs ws):Clr S2 ⟨S3.sh,ws,fs⟩ B X C (j+1):=by
 refine⟨hI.chs (h.first hc) (by rw[h.sh];exact hB) (Nat.le_refl _),h.sh,by rw[<-h.wl];exact hI.wl,by rw[<-h.fl];exact hI.fl,fun t ht=> ?_⟩;rw[<-h.ws t ht];unfold Sp.w;rw[List.getD_eq_getElem?_getD,List.getD_eq_getElem?_getD,hI.w2 t (.inl fun hm=>ht ⟨c,List.mem_of_getElem? hc,hm⟩)]
end Go.Proofs.YtopcdfbplknmlaaGreat
