/- Part of the proof of the claim: walks and plain laws; each theorem states its own conditions. -/
import Derived.Test.YtopcdfbplknmlaaGreatL
import Derived.Test.YtopcdfbplknmlaaGreatG8
set_option linter.all false
set_option maxHeartbeats 4000000
set_option maxRecDepth 100000
namespace Go.Proofs.YtopcdfbplknmlaaGreat
open Go.RowKit Go.Draw
structure BO(w:World)(base:Nat)(A:Option Addr)(c:Nat)(vs:List Value)(Q:List (List Inc)):Prop where
 vl:vs.length=Q.length
 out:w.ownsRow base 155 1 (.slice A Q.length c) Q.length vs
 each: ∀(i:Nat) (v:Value) (q:List Inc),vs[i]? =some v->Q[i]? =some q->w.ownsRow base 144 5 v q.length (zQ q)
 apart: ∀(i j:Nat) (vi vj:Value) (b:Nat),vs[i]? =some vi->vs[j]? =some vj->vi.ownBlock=some b->vj.ownBlock=some b->i=j
section
variable{w w':World} {base c:Nat} {A:Option Addr} {vs:List Value} {Q:List (List Inc)}
theorem BO.ext(h:BO w base A c vs Q)(he:Ext w w'):BO w' base A c vs Q:=⟨h.vl,zm h.out he,fun i v q hv hq=>zm (h.each i v q hv hq) he,h.apart⟩
theorem BO.base_(h:BO w base A c vs Q){b:Nat}(hb:b<=base):BO w b A c vs Q:=⟨h.vl,zu h.out hb,fun i v q hv hq=>zu (h.each i v q hv hq) hb,h.apart⟩
theorem BO.at_(h:BO w base A c vs Q){k:Nat}{q:List Inc}(hq:Q[k]? =some q): ∃g P pc,A=some ⟨g,0,none⟩∧vs[k]? =some (.slice P q.length pc)∧w.cell? ⟨g,k,none⟩=some (.slice P q.length pc)∧w.ownsRow base 144 5 (.slice P q.length pc) q.length (zQ q)∧base<=g∧g<w.heap.size:=by
 have hk:=(List.getElem?_eq_some_iff.1 hq).1;obtain⟨v,hv⟩: ∃v,vs[k]? =some v:=⟨_,List.getElem?_eq_getElem (by rw[h.vl];exact hk)⟩;have h1:=h.each k v q hv hq;obtain⟨P,pc,rfl,_,_⟩:=vm h1;obtain⟨g,rfl,h2,h3⟩:=yD h.out (by omega);exact⟨g,P,pc,rfl,hv,(zz h.out).1 k _ hv,h1,h2,h3⟩
theorem BO.rd(h:BO w base A c vs Q):BRd w A Q:=by
 intro h0;obtain⟨g,rfl,_,_⟩:=yD h.out h0;refine⟨g,0,rfl,fun i q hq=> ?_⟩;obtain⟨g',P,pc,he,_,hc,ho,_⟩:=h.at_ hq;simp only[Option.some.injEq,Addr.mk.injEq,and_true]at he;subst he;rw[Nat.zero_add];exact⟨P,pc,hc,Rd.of_own ho⟩
theorem BO.snoc{A':Option Addr}{c' n:Nat}{v:Value}{q:List Inc}(h:BO w base A c vs Q)(hv:w.ownsRow base 144 5 v q.length (zQ q))(hf: ∀(b i:Nat) (u:Value),v.ownBlock=some b->vs[i]? =some u->u.ownBlock≠some b)(hn:n=Q.length+1)
 (ho:w'.ownsRow base 155 1 (.slice A' n c') n (vs++ [v])) (hg:w.grownBy w' (Value.slice A Q.length c).ownBlock):BO w' base A' c' (vs++ [v]) (Q++ [q]):=by
 subst hn;have hB:=zL hg;have keep: ∀(u:Value) (l:List Inc),w.ownsRow base 144 5 u l.length (zQ l) ->w'.ownsRow base 144 5 u l.length (zQ l):=fun u l hu=>zo hu hB (fun b hb hm=>yk hu h.out (by decide) hb (Option.mem_toList.1 hm))
 refine⟨by simp[h.vl],by rw[List.length_append];exact ho,fun i u l hu hl=> ?_,fun i j vi vj b hi hj hvi hvj=> ?_⟩
 ·rcases Nat.lt_or_ge i vs.length with hlt|hge
  ·rw[List.getElem?_append_left hlt]at hu
   rw[List.getElem?_append_left (by rw[<-h.vl];exact hlt)]at hl;exact keep _ _ (h.each i u l hu hl)
  ·have hi:=(List.getElem?_eq_some_iff.1 hu).1
   simp only[List.length_append,List.length_cons,List.length_nil]at hi;have:i=vs.length:=by omega
   subst this;rw[List.getElem?_append_right (Nat.le_refl _),Nat.sub_self]at hu;rw[h.vl,List.getElem?_append_right (Nat.le_refl _),Nat.sub_self]at hl;injection hu with hu;injection hl with hl;subst hu hl;exact keep _ _ hv
 ·have hil:=(List.getElem?_eq_some_iff.1 hi).1
  have hjl:=(List.getElem?_eq_some_iff.1 hj).1;simp only[List.length_append,List.length_cons,List.length_nil]at hil hjl;rcases Nat.lt_or_ge i vs.length with hi1|hi1
  ·rw[List.getElem?_append_left hi1]at hi
   rcases Nat.lt_or_ge j vs.length with hj1|hj1
   ·rw[List.getElem?_append_left hj1]at hj
    exact h.apart i j vi vj b hi hj hvi hvj
   ·have:j=vs.length:=by omega
    subst this;rw[List.getElem?_append_right (Nat.le_refl _),Nat.sub_self]at hj;injection hj with hj;subst hj;exact absurd hvi (hf b i vi hvj hi)
  ·have:i=vs.length:=by omega
   subst this;rw[List.getElem?_append_right (Nat.le_refl _),Nat.sub_self]at hi;injection hi with hi;subst hi;rcases Nat.lt_or_ge j vs.length with hj1|hj1
   ·rw[List.getElem?_append_left hj1]at hj
    exact absurd hvj (hf b j vj hvi hj)
   ·omega
theorem BO.upd{g k m:Nat}{u v:Value}{q:List Inc}(h:BO w base (some ⟨g,0,none⟩) c vs Q)(hk:vs[k]? =some u)(hB:But u.ownBlock.toList w w')(hv:w'.ownsRow base 144 5 v q.length (zQ q))(hf:v.ownBlock=u.ownBlock∨v.ownBlock=some m)(hm:w.heap.size<=m):
 BO (w'.setCell ⟨g,k,none⟩ v) base (some ⟨g,0,none⟩) c (vs.set k v) (Q.set k q):=by
 have hkl:=(List.getElem?_eq_some_iff.1 hk).1;obtain⟨qk,hqk⟩: ∃qk,Q[k]? =some qk:=⟨_,List.getElem?_eq_getElem (by rw[<-h.vl];exact hkl)⟩;have hu:=h.each k u qk hk hqk;have hout:=zo h.out hB (fun b hb hm'=>yk hu h.out (by decide) (Option.mem_toList.1 hm') hb)
 have hBg: ∀(u':Value) (l:List Inc),w'.ownsRow base 144 5 u' l.length (zQ l) ->(w'.setCell ⟨g,k,none⟩ v).ownsRow base 144 5 u' l.length (zQ l):=fun u' l hu'=>zo hu' (But.setCell (S:= [g]) (But.refl _ _) (by simp) v) (fun b hb hm'=>by
  have:=List.mem_singleton.1 hm';subst this;exact zbl hu' hout (by decide) hb)
 refine⟨by simp[h.vl],?_,fun i u' l hu' hl=> ?_,fun i j vi vj b hi hj hvi hvj=> ?_⟩
 ·have:=yv hout k v
  simpa only[List.length_set]using this
 ·by_cases hik:k=i
  ·subst hik
   rw[List.getElem?_set_self hkl]at hu';rw[List.getElem?_set_self (by rw[<-h.vl];exact hkl)]at hl;injection hu' with hu';injection hl with hl;subst hu' hl;exact hBg _ _ hv
  ·rw[List.getElem?_set_ne hik]at hu' hl
   refine hBg _ _ (zo (h.each i u' l hu' hl) hB (fun b hb hm'=>hik ?_));exact h.apart k i u u' b hk hu' (Option.mem_toList.1 hm') hb
 ·have fresh: ∀(i:Nat) (u':Value),k≠i->vs[i]? =some u'-> ∀b,v.ownBlock=some b->u'.ownBlock≠some b:=fun i u' hne hi b hb hb'=>by
   rcases hf with hf|hf
   ·exact hne (h.apart k i u u' b hk hi (hf▸hb) hb')
   ·rw[hf]at hb
    injection hb with hb;subst hb;have hil:=(List.getElem?_eq_some_iff.1 hi).1;obtain⟨qi,hqi⟩: ∃qi,Q[i]? =some qi:=⟨_,List.getElem?_eq_getElem (by rw[<-h.vl];exact hil)⟩;have:=(World.ownsRow.lt (h.each i u' qi hi hqi) _ hb').2;omega
  by_cases hik:k=i
  ·subst hik
   rw[List.getElem?_set_self hkl]at hi;injection hi with hi;subst hi;by_cases hjk:k=j
   ·exact hjk
   ·rw[List.getElem?_set_ne hjk]at hj
    exact absurd hvj (fresh j vj hjk hj b hvi)
  ·rw[List.getElem?_set_ne hik]at hi
   by_cases hjk:k=j
   ·subst hjk
    rw[List.getElem?_set_self hkl]at hj;injection hj with hj;subst hj;exact absurd hvi (fresh i vi hik hi b hvj)
   ·rw[List.getElem?_set_ne hjk]at hj
    exact h.apart i j vi vj b hi hj hvi hvj
end
def zmh(w:World)(Q:List (List Inc))(r:Ending)(w':World):Prop:= ∃(A:Option Addr) (c:Nat) (vs:List Value),r= .returned (.slice A Q.length c)∧BO w' w.heap.size A c vs Q∧Ext w w'
theorem vG(A0:Option Addr)(c0:Nat)(vs0:List Value)(Q:List (List Inc))(w:World)(h:BO w 0 A0 c0 vs0 Q)(hn:Q.length<=1000)(hm: ∀q∈Q,q.length<=10000):
 Calls Tryz.prog 61 #[.slice A0 Q.length c0] w (zmh w Q):=by
 have Hm:=Lib.hid hm;clear hm;go_enter Tryz.func61,Tryz.ntmps61;go_wp2;go_loopw [3,8] (fun s i wr=> ∃(k:Nat) (vs:List Value) (A:Option Addr) (c:Nat),k<=Q.length∧i= .int .i64 k∧s= .slice A (Q.take k).length c∧BO wr w.heap.size A c vs (Q.take k)∧Ext w wr) (fun _ i _=>Q.length-(intOf i).toNat);case atStart=>exact⟨0,[],none,0,by omega,rfl,rfl,⟨rfl,zP _ _ _ _,by simp,by simp⟩,by exact jX⟩
 case round=>
  obtain⟨k,vs,A,c,hk,rfl,rfl,hO,hE⟩:=hrel;have hsz:=hE.size_le;have hkl:(Q.take k).length<=1000:=by rw[List.length_take];omega
  by_cases hlt:k<Q.length
  ·have hdec:decide ((k:Int)<Q.length)=true:=by simp;omega
   have hdec':decide (k<Q.length)=true:=by simp;omega
   have hkI:(k:Int)<Q.length:=by omega
   obtain⟨q,hq⟩: ∃q,Q[k]? =some q:=⟨_,List.getElem?_eq_getElem hlt⟩;obtain⟨g,P,pc,rfl,_,c1,hq0,_,lg⟩:=(h.ext hE).at_ hq;have hql:=Hm.out q (List.mem_of_getElem? hq);have Htk:=Lib.hid (show Q.take (k+1)=Q.take k++ [q] by rw[List.take_add_one,hq];rfl);obtain⟨Qk,hQk⟩: ∃Qk,Q.take k=Qk:=⟨_,rfl⟩;rw[hQk]at hO hkl|-;have HQk:=Lib.hid hQk;clear hq hQk;go_wp2_with(first|(at_builtin;refine y6 rfl Tryz.elN _ _ rfl rfl _ _ _ _ _ rfl ((Rd.of_own hq0).ext jX) (v8 _) (by omega) (by omega) (Nat.le_refl _) ?_;intro B d w1 hB hE1;have hz1:=hE1.size_le)|(at_builtin;refine zJ rfl Tryz.elB _ _ rfl w.heap.size _ _ _ rfl (zm hO.out jX) _ 1 1 _ rfl (xm _ _ _) (by simp[Value.oneCell']) (by omega) (by omega) (by(first|omega|(simp;done)|(simp;omega))) ?_;intro A2 c2 w2 hown2 hg2 hat2));have hX:Ext w1 (w1.alloc (.cells #[.slice B q.length d] 155)):=Ext.alloc (Ext.refl _) _;have hO2:=(hO.ext hE1).ext hX;have hE2:Ext w w2:=yy ((hE.trans hE1).trans hX) hg2 hO2.out (Nat.le_refl _)
   have hs:=BO.snoc (q:=q) hO2 (zm (zu hB hsz) hX) (fun b i u hb hu hub=>by
    have hil:=(List.getElem?_eq_some_iff.1 hu).1;obtain⟨qi,hqi⟩: ∃qi,Qk[i]? =some qi:=⟨_,List.getElem?_eq_getElem (by rw[<-hO.vl];exact hil)⟩;have h1:=(World.ownsRow.lt (hO.each i u qi hu hqi) b hub).2;have h2:=(World.ownsRow.lt hB b hb).1;omega) rfl hown2 hg2
   go_roundw
   case rel=>
    have hl:(Qk++ [q]).length=Qk.length+1:=by simp
    exact⟨k+1,_,A2,c2,by omega,by go_num,by rw[Htk.out,HQk.out,hl],by rw[Htk.out,HQk.out];exact hs,hE2⟩
   case measure=>simp[intOf];omega
  ·have hdec:decide ((k:Int)<Q.length)=false:=by simp;omega
   have hdec':decide (k<Q.length)=false:=by simp;omega
   have hke:k=Q.length:=by omega
   rw[hke,List.take_length]at hO|-;clear hke;go_wp2;go_ret;exact⟨A,c,vs,rfl,hO,hE⟩
def zbs:Option Inc->Value
 |some i=> .tuple #[.agg #[.int .i64 i.q,.int .i64 i.b,.int .i64 i.f,.int .i64 i.l,.int .i64 i.w],.bool true]
 |none=> .tuple #[.agg #[.int .i64 0,.int .i64 0,.int .i64 0,.int .i64 0,.int .i64 0],.bool false]
theorem zc1{Q:Ending->World->Prop}{a:Act}{W:World}{g1:Nat}{v0 v1 v2 v3 v4 t5:Value}(hd:a.defers= [])(h4:a.tmps[4]?.getD undef= .pointer (some ⟨g1,0,none⟩))(h5:a.tmps[5]?.getD undef=t5)
 (k1:Blk W g1 144 #[v0,v1,v2,v3,v4]) (hQ:Q (.returned (.tuple #[.agg #[v0,v1,v2,v3,v4],t5])) W):bodyPost Tryz.prog Tryz.f87 Q Exit.ret a W:=by
 have c1:=k1.cell;exact bodyPost_ret (v:= .tuple #[.agg #[v0,v1,v2,v3,v4],t5]) (by simp[results,Tryz.results87,go_sem,h4,h5,c1]) hd hQ
theorem zfh{Q:Ending->World->Prop}{a:Act}{W:World}{g1:Nat}{v0 v1 v2 v3 v4 t5:Value}(hd:a.defers= [])(h4:a.tmps[4]?.getD undef= .pointer (some ⟨g1,0,none⟩))(h5:a.tmps[5]?.getD undef=t5)
 (k1:Blk W g1 144 #[v0,v1,v2,v3,v4]) (hQ:Q (.returned (.tuple #[.agg #[v0,v1,v2,v3,v4],t5])) W):bodyPost Tryz.prog Tryz.f97 Q Exit.ret a W:=by
 have c1:=k1.cell;exact bodyPost_ret (v:= .tuple #[.agg #[v0,v1,v2,v3,v4],t5]) (by simp[results,Tryz.results97,go_sem,h4,h5,c1]) hd hQ
theorem qM(A:Option Addr)(c k:Nat)(vs:List Value)(Q:List (List Inc))(q:List Inc)(w:World)(h:BO w 0 A c vs Q)(hq:Q[k]? =some q)(hql:q.length<=10000):
 Calls Tryz.prog 87 #[.slice A Q.length c,.int .i64 k] w fun r w'=>r= .returned (zbs q.getLast?)∧Ext w w':=by
 have hk:=(List.getElem?_eq_some_iff.1 hq).1;have hkI:(k:Int)<Q.length:=by omega
 have d0:decide ((k:Int)<0)=false:=by(first|omega|(simp;done)|(simp;omega))
 have d1:decide ((Q.length:Int)<=k)=false:=by(first|omega|(simp;done)|(simp;omega))
 have d1':decide (Q.length<=k)=false:=by(first|omega|(simp;done)|(simp;omega))
 obtain⟨g,P,pc,rfl,_,c1,hq0,_,lg⟩:=h.at_ hq;rcases Nat.eq_zero_or_pos q.length with hz|hz
 ·have hr:q= []:=List.eq_nil_of_length_eq_zero hz
  subst hr;simp only[List.length_nil]at c1;clear hq hq0 h;go_enter Tryz.func87,Tryz.ntmps87;go_wp2;exact zc1 rfl rfl rfl (Blk.new rfl) ⟨rfl,by exact jX⟩
 ·obtain⟨i,hi⟩: ∃i,q[q.length-1]? =some i:=⟨_,List.getElem?_eq_getElem (by omega)⟩
  have Hr:=Lib.hid (show zbs q.getLast? = .tuple #[.agg #[.int .i64 i.q,.int .i64 i.b,.int .i64 i.f,.int .i64 i.l,.int .i64 i.w],.bool true] by rw[List.getLast?_eq_getElem?,hi];rfl);obtain⟨bD,oD,hb,c0',c1',c2,c3,c4⟩:=xo (Rd.of_own hq0) hi;subst hb;have lD:=zh c0';have hne:((q.length:Int)==0)=false:=by rw[beq_eq_false_iff_ne];omega
  have hne':(q.length==0)=false:=by rw[beq_eq_false_iff_ne];omega
  have hm:((q.length:Int) -1)=((q.length-1:Nat):Int):=by omega
  generalize hql2:q.length-1=m at*;have hmI:(m:Int)<q.length:=by omega
  have Hql:=Lib.hid hql2;clear hq hq0 h hi hql2;go_enter Tryz.func87,Tryz.ntmps87;go_upto_region 3 with fail;have k4:Blk (w.alloc (.cells #[.int .i64 0,.int .i64 0,.int .i64 0,.int .i64 0,.int .i64 0] 144)) w.heap.size 144 #[.int .i64 0,.int .i64 0,.int .i64 0,.int .i64 0,.int .i64 0]:=Blk.new rfl;have hE0:=Ext.alloc (Ext.refl w) (.cells #[.int .i64 0,.int .i64 0,.int .i64 0,.int .i64 0,.int .i64 0] 144);replace c1:=zp hE0 c1;replace c0':=zp hE0 c0';replace c1':=zp hE0 c1';replace c2:=zp hE0 c2;replace c3:=zp hE0 c3;replace c4:=zp hE0 c4;generalize w.alloc (.cells #[.int .i64 0,.int .i64 0,.int .i64 0,.int .i64 0,.int .i64 0] 144)=W at*;obtain⟨b4,hb4⟩: ∃b4,w.heap.size=b4:=⟨_,rfl⟩;have n1: ¬g=b4:=by omega
  have n2: ¬bD=b4:=by omega
  rw[hb4]at k4|-;have Hb4:=Lib.hid hb4;clear lg lD hb4;have lg:=zh c1;have lD:=zh c0';have cB:=k4.cell;have fB:=k4.froz;have lB:=k4.lt;refine jRB [b4] [(true,0),(true,1),(true,2),(true,3),(true,4),(true,5),(true,6),(true,7),(true,8),(true,9),(true,10),(true,11),(false,12),(true,13)] Tryz.mixed fun hx hy=> ?_
  repeat(first
   |refine jLB hx ?_
   |refine jLS ?_
   |(refine yP hx (fun K hK=> ?_);go_simp;(first|refine hK _ _ jB ?_|refine hK undef _ jB ?_);clear hK hx;intro hx;try refine jq ?_)
   |(refine yP hx (fun K hK=> ?_);have hcy:=Ext.cell hy;have hfy:=Ext.froz hy;go_simp;(first|refine hK _ _ jB ?_|refine hK undef _ jB ?_);clear hK hx;intro hx;try refine jq ?_))
  refine zH ?_;go_wp2;have k5:=(((((k4.set_ 0 (.int .i64 i.q)).set_ 1 (.int .i64 i.b)).set_ 2 (.int .i64 i.f)).set_ 3 (.int .i64 i.l)).set_ 4 (.int .i64 i.w)).drew;refine zc1 rfl rfl rfl k5 ⟨Hr.out▸rfl,?_⟩;exact But.ext hE0 (y8 (zY (hx.bel W.heap.size))) (fun x hm=>by have:=List.mem_singleton.1 hm;have:=Hb4.out;omega)
theorem zj0{F:List Inc}{z:Int}(h: ∀i∈F,i.q≠z):F.find? (fun i=>decide (i.q=z))=none:=by
 rw[List.find?_eq_none];intro i hi;simpa using h i hi
theorem zc2: ∀{F:List Inc} {z:Int} {k:Nat} {i:Inc},F[k]? =some i->i.q=z->(∀x∈F.take k,x.q≠z) ->F.find? (fun i=>decide (i.q=z))=some i
 | [],z,k,i,h,_,_=>by simp at h
 |f::F,z,0,i,h,e,_=>by
  simp only[List.getElem?_cons_zero,Option.some.injEq]at h;subst h;simp[e]
 |f::F,z,k+1,i,h,e,hn=>by
  simp only[List.getElem?_cons_succ]at h;have h1:=hn f (by simp);rw[List.find?_cons_of_neg (by simpa using h1)];exact zc2 h e (fun x hx=>hn x (by simp[hx]))
theorem zfi(A:Option Addr)(c:Nat)(vs:List Value)(Q:List (List Inc))(z:Int)(w:World)(h:BO w 0 A c vs Q)(hn:Q.length<=1000)(hm: ∀q∈Q,q.length<=10000):
 Calls Tryz.prog 97 #[.slice A Q.length c,.int .i64 z] w fun r w'=>r= .returned (zbs (Q.flatten.find? fun i=>decide (i.q=z)))∧Ext w w':=by
 have Hm:=Lib.hid hm;clear hm;go_enter Tryz.func97,Tryz.ntmps97;go_upto_region 1 with fail;have k4:Blk (w.alloc (.cells #[.int .i64 0,.int .i64 0,.int .i64 0,.int .i64 0,.int .i64 0] 144)) w.heap.size 144 #[.int .i64 0,.int .i64 0,.int .i64 0,.int .i64 0,.int .i64 0]:=Blk.new rfl;have hE0:=Ext.alloc (Ext.refl w) (.cells #[.int .i64 0,.int .i64 0,.int .i64 0,.int .i64 0,.int .i64 0] 144);generalize w.alloc (.cells #[.int .i64 0,.int .i64 0,.int .i64 0,.int .i64 0,.int .i64 0] 144)=W at*;obtain⟨b4,hb4⟩: ∃b4,w.heap.size=b4:=⟨_,rfl⟩;rw[hb4]at k4|-;have Hb4:=Lib.hid hb4;clear hb4;go_wp2_with fail;go_loopw [12] (fun i wr=> ∃k:Nat,k<=Q.length∧i= .int .i64 k∧(∀x∈(Q.take k).flatten,x.q≠z)∧Blk wr b4 144 #[.int .i64 0,.int .i64 0,.int .i64 0,.int .i64 0,.int .i64 0]∧Ext w wr) (fun i _=>Q.length-(intOf i).toNat);case atStart=>exact⟨0,by omega,rfl,by simp,k4,hE0⟩
 case round=>
  clear k4 hE0;obtain⟨k,hk,rfl,hno,k4,hE⟩:=hrel;have Hno:=Lib.hid hno;clear hno;by_cases hlt:k<Q.length
  ·have hdec:decide ((k:Int)<Q.length)=true:=by simp;omega
   have hdec':decide (k<Q.length)=true:=by simp;omega
   have hkI:(k:Int)<Q.length:=by omega
   obtain⟨q,hq⟩: ∃q,Q[k]? =some q:=⟨_,List.getElem?_eq_getElem hlt⟩;obtain⟨g,P,pc,rfl,_,c1,hq0,_,lg⟩:=(h.ext hE).at_ hq;have hql:=Hm.out q (List.mem_of_getElem? hq);have Htk:=Lib.hid (show(Q.take (k+1)).flatten=(Q.take k).flatten++q from zcv hq)
   have Hfl:=Lib.hid (show Q.flatten=(Q.take k).flatten++(q++(Q.drop (k+1)).flatten) by
    have e:Q.flatten=(Q.take (k+1)).flatten++(Q.drop (k+1)).flatten:=by rw[<-List.flatten_append,List.take_append_drop]
    rw[e,Htk.out,List.append_assoc])
   clear hq;go_wp2_with fail;go_loopw [18] (fun i wq=> ∃j:Nat,j<=q.length∧i= .int .i64 j∧(∀x∈q.take j,x.q≠z)∧Ext wr wq) (fun i _=>q.length-(intOf i).toNat);case atStart=>exact⟨0,by omega,rfl,by simp,by exact jX⟩
   case round=>
    have hEk:=hE;have k4k:=k4;clear hE k4;obtain⟨j,hj,rfl,hnj,hEq⟩:=hrel;have Hnj:=Lib.hid hnj;clear hnj;have k4q:=k4k.ext hEq;by_cases hjl:j<q.length
    ·have hjec:decide ((j:Int)<q.length)=true:=by simp;omega
     have hjec':decide (j<q.length)=true:=by simp;omega
     have hjI:(j:Int)<q.length:=by omega
     obtain⟨i,hi⟩: ∃i,q[j]? =some i:=⟨_,List.getElem?_eq_getElem hjl⟩;obtain⟨bD,oD,he,c0',c1',c2,c3,c4⟩:=xo (Rd.of_own (zm hq0 hEq)) hi;subst he;have lD:=zh c0';have Hi:=Lib.hid hi;clear hi;have cB:=k4q.cell;have fB:=k4q.froz;have lB:=k4q.lt;by_cases he:i.q=z
     ·have q1:(i.q==z)=true:=by simpa using he
      have Hr:=Lib.hid (show Q.flatten.find? (fun i=>decide (i.q=z))=some i by
       refine zc2 (k:=(Q.take k).flatten.length+j) ?_ he (fun x hx=> ?_)
       ·rw[Hfl.out,List.getElem?_append_right (by omega),Nat.add_sub_cancel_left,List.getElem?_append_left hjl]
        exact Hi.out
       ·rw[Hfl.out,List.take_append,List.take_of_length_le (by omega),Nat.add_sub_cancel_left]at hx
        rcases List.mem_append.1 hx with hx|hx
        ·exact Hno.out x hx
        ·rw[List.take_append_of_le_length (by omega)]at hx
         exact Hnj.out x hx)
      clear he;go_wp2_with fail;have k5:=(((((k4q.set_ 0 (.int .i64 i.q)).set_ 1 (.int .i64 i.b)).set_ 2 (.int .i64 i.f)).set_ 3 (.int .i64 i.l)).set_ 4 (.int .i64 i.w)).alloc (.cells #[.int .i64 i.q,.int .i64 i.b,.int .i64 i.f,.int .i64 i.l,.int .i64 i.w] 144);have hb4:=Hb4.out;refine zfh rfl rfl rfl k5 ⟨Hr.out▸rfl,Ext.alloc (Ext.setCell (Ext.setCell (Ext.setCell (Ext.setCell (Ext.setCell (hEk.trans hEq) (by simp;omega) _) (by simp;omega) _) (by simp;omega) _) (by simp;omega) _) (by simp;omega) _) _⟩
     ·have q1:(i.q==z)=false:=by simpa using he
      have He:=Lib.hid he;clear he;go_wp2_with fail;go_roundw
      case rel=>exact⟨j+1,by omega,by go_num,fun x hx=>by
       rw[List.take_add_one,Hi.out]at hx;rcases List.mem_append.1 hx with hx|hx
       ·exact Hnj.out x hx
       ·simp only[Option.toList,List.mem_singleton]at hx
        subst hx;exact He.out,by exact jX⟩
      case measure=>simp[intOf];omega
    ·have hjec:decide ((j:Int)<q.length)=false:=by simp;omega
     have hjec':decide (j<q.length)=false:=by simp;omega
     have hje:j=q.length:=by omega
     have Hn2:=Lib.hid (show∀x∈(Q.take (k+1)).flatten,x.q≠z from fun x hx=>by
      rw[Htk.out]at hx;rcases List.mem_append.1 hx with hx|hx
      ·exact Hno.out x hx
      ·exact Hnj.out x (by rw[hje,List.take_length];exact hx))
     clear hje;go_wp2_with fail;go_roundw;case rel=>exact⟨k+1,by omega,by go_num,Hn2.out,k4q,hEk.trans hEq⟩
     case measure=>simp[intOf];omega
  ·have hdec:decide ((k:Int)<Q.length)=false:=by simp;omega
   have hdec':decide (k<Q.length)=false:=by simp;omega
   have hke:k=Q.length:=by omega
   have Hr:=Lib.hid (zj0 (F:=Q.flatten) (z:=z) (fun x hx=>Hno.out x (by rw[hke,List.take_length];exact hx)));clear hke;have cB:=k4.cell;have fB:=k4.froz;have lB:=k4.lt;go_wp2_with fail;have k5:=((((k4.set_ 0 (.int .i64 0)).set_ 1 (.int .i64 0)).set_ 2 (.int .i64 0)).set_ 3 (.int .i64 0)).set_ 4 (.int .i64 0);have hb4:=Hb4.out;refine zfh rfl rfl rfl k5 ⟨Hr.out▸rfl,Ext.setCell (Ext.setCell (Ext.setCell (Ext.setCell (Ext.setCell (hE) (by simp;omega) _) (by simp;omega) _) (by simp;omega) _) (by simp;omega) _) (by simp;omega) _⟩
def zae(w:World)(Q:List (List Inc))(r:Ending)(w':World):Prop:= ∃(A:Option Addr) (c:Nat) (vs:List Value),r= .returned (.tuple #[.slice A Q.length c,.int .i64 0])∧BO w' w.heap.size A c vs Q∧Ext w w'
theorem ziv(A:Option Addr)(c k:Nat)(vs:List Value)(Q:List (List Inc))(q:List Inc)(i:Inc)(w:World)(h:BO w 0 A c vs Q)(hq:Q[k]? =some q)(hb:i.b=(k:Int))(hn:Q.length<=1000)(hm: ∀q∈Q,q.length<=10000)(hy: ∀y,q.getLast? =some y->y.q<i.q):
 Calls Tryz.prog 78 #[.slice A Q.length c,.agg #[.int .i64 i.q,.int .i64 i.b,.int .i64 i.f,.int .i64 i.l,.int .i64 i.w]] w (zae w (Q.set k (q++ [i]))):=by
 have hk:=(List.getElem?_eq_some_iff.1 hq).1;have hql:=hm q (List.mem_of_getElem? hq);have hkI:(k:Int)<Q.length:=by omega
 have d0:decide ((k:Int)<0)=false:=by(first|omega|(simp;done)|(simp;omega))
 have d1:decide ((Q.length:Int)<=k)=false:=by(first|omega|(simp;done)|(simp;omega))
 have d1':decide (Q.length<=k)=false:=by(first|omega|(simp;done)|(simp;omega))
 rw[hb];have Hq:=Lib.hid hq;have Hm:=Lib.hid hm;have Hb:=Lib.hid hb;clear hm hb hq;go_enter Tryz.func78,Tryz.ntmps78;go_upto_region 1 with fail;have k3:Blk (w.alloc (.cells #[.int .i64 i.q,.int .i64 k,.int .i64 i.f,.int .i64 i.l,.int .i64 i.w] 144)) w.heap.size 144 #[.int .i64 i.q,.int .i64 k,.int .i64 i.f,.int .i64 i.l,.int .i64 i.w]:=Blk.new rfl;have hE0:=Ext.alloc (Ext.refl w) (.cells #[.int .i64 i.q,.int .i64 k,.int .i64 i.f,.int .i64 i.l,.int .i64 i.w] 144);generalize w.alloc (.cells #[.int .i64 i.q,.int .i64 k,.int .i64 i.f,.int .i64 i.l,.int .i64 i.w] 144)=W0 at*;obtain⟨b3,hb3⟩: ∃b3,w.heap.size=b3:=⟨_,rfl⟩;rw[hb3]at k3|-;have Hb3:=Lib.hid hb3;clear hb3;have c3:=k3.cell;have l3:=k3.lt;have hY:=qM A c k vs Q q W0 (h.ext hE0) Hq.out (by omega);cases hl:q.getLast? with
 |none=>
  rw[hl]at hY;simp only[zbs]at hY;have HY:=Lib.hid hY;clear hy hl hY;go_upto_region 7 with(first|(go_at_call 87;refine(HY.out).mono ?_;rintro e w1 ⟨rfl,hE1⟩;replace k3:=k3.ext hE1;have c3:=k3.cell;have l3:=k3.lt)|(go_at_call 61;refine(vG _ _ _ Q _ (h.ext jX) hn Hm.out).mono ?_;rintro e w1 ⟨A2,c2,vs2,rfl,hO0,hE3⟩;have hz3:=k3.lt;replace k3:=(k3.alloc _).ext hE3;have c3:=k3.cell;have l3:=k3.lt;have hO:=hO0.base_ (b:=w.heap.size+1) (by have h1:=Hb3.out;have h2:=hz3;simp;omega);clear hO0));have hEw:Ext w w1:=by exact jX
  obtain⟨wa,hwa⟩: ∃wa,wa=w1:=⟨_,rfl⟩;subst hwa;obtain⟨g,P,pc,rfl,hv,zc,hv5,hg1,lg⟩:=hO.at_ Hq.out;have Hv:=Lib.hid hv;have hb3:=Hb3.out;have hwz:=hEw.size_le;have hlv:=World.ownsRow.lt hv5;have hgA: ∀b,(Value.slice (some ⟨g,0,none⟩) Q.length c2).ownBlock=some b->b∉(Value.slice P q.length pc).ownBlock.toList:=fun b hb hm=>yk hv5 hO.out (by decide) (Option.mem_toList.1 hm) hb
  obtain⟨Sx,hSx⟩: ∃Sx:List Nat,Sx=g::(Value.slice P q.length pc).ownBlock.toList:=⟨_,rfl⟩;have hgS:g∈Sx:=by rw[hSx];exact List.mem_cons_self
  have hAS: ∀x∈(Value.slice P q.length pc).ownBlock.toList,x∈Sx:=fun x hx=>by rw[hSx];exact List.mem_cons_of_mem _ hx
  have hb3S:b3∉Sx:=by
   rw[hSx];intro hm;rcases List.mem_cons.1 hm with hm|hm
   ·omega
   ·have:=(hlv b3 (Option.mem_toList.1 hm)).1
    omega
  have HSx:=Lib.hid hSx;clear hv hSx;refine zn (wa.heap.size) Sx (.take 0 (.take 1 (.take 2 (.take 3 (.take 4 (.take 5 (.take 6 (.take 8 (.alt 7 (.alt 9 (.alt 10 (.take 11 (.alt 12 .done .none)) .none) .none) (.alt 9 (.alt 7 (.alt 10 (.take 11 (.alt 12 .done .none)) .none) .none) .none)))))))))) Tryz.mixed (by kernel_rfl) ?_;intro hx;iterate 8 (first|refine jTN hx ?_|refine jTS ?_)
  refine jCN hx (fun K hK=> ?_) ?_;go_simp;first|refine hK _ _ jN ?_|refine hK undef _ jN ?_
  clear hK hx;intro hx;refine jp ?_;refine jCN hx (fun K hK=> ?_);go_simp;first|refine hK _ _ jN ?_|refine hK undef _ jN ?_
  clear hK hx;intro hx;refine jp ?_;refine jCN hx (fun K hK=> ?_);refine zX Tryz.elN _ _ rfl (w.heap.size+1) _ _ _ rfl (zm hv5 jX) _ 1 1 _ rfl (yF _ [_,_,_,_,_] 144 1 5 rfl) (by simp[Value.oneCell']) (by omega) (by omega) (by(first|omega|(simp;done)|(simp;omega))) ?_;intro A3 c3' w3 hv3 hg3 hat3;have kO3:=zo (zm hO.out jX) (zL hg3) hgA;have cO3:=(zz kO3).1 k _ Hv.out;have fO3:=(zz kO3).2;have lO3:=zh cO3;refine hK _ _ (((But.more (zL hg3) hAS).bel _)) ?_;clear hK hx;intro hx;refine jp ?_;first|refine jTN hx ?_|refine jTS ?_
  refine yl hx (fun K hK=> ?_);go_simp;refine hK _ ((Bel.setIn (p:=⟨g,k,none⟩) (Bel.refl _ _ _) hgS _)) ?_;clear hK hx;intro hx;refine zi ?_;rotate_left;refine jCN hx (fun K hK=> ?_);go_simp;first|refine hK _ _ jN ?_|refine hK undef _ jN ?_
  clear hK hx;intro hx;refine jp ?_;refine jCN hx (fun K hK=> ?_);go_simp;first|refine hK _ _ jN ?_|refine hK undef _ jN ?_
  clear hK hx;intro hx;refine jp ?_;refine jCN hx (fun K hK=> ?_);refine zX Tryz.elN _ _ rfl (w.heap.size+1) _ _ _ rfl (zm hv5 jX) _ 1 1 _ rfl (yF _ [_,_,_,_,_] 144 1 5 rfl) (by simp[Value.oneCell']) (by omega) (by omega) (by(first|omega|(simp;done)|(simp;omega))) ?_;intro A3 c3' w3 hv3 hg3 hat3;have kO3:=zo (zm hO.out jX) (zL hg3) hgA;have cO3:=(zz kO3).1 k _ Hv.out;have fO3:=(zz kO3).2;have lO3:=zh cO3;refine hK _ _ (((But.more (zL hg3) hAS).bel _)) ?_;clear hK hx;intro hx;refine jp ?_;first|refine jTN hx ?_|refine jTS ?_
  refine yl hx (fun K hK=> ?_);go_simp;refine hK _ ((Bel.setIn (p:=⟨g,k,none⟩) (Bel.refl _ _ _) hgS _)) ?_;clear hK hx;intro hx;refine zi ?_;rotate_left
  all_goals
   go_wp2;refine bodyPost_ret (v:= .tuple #[.slice (some ⟨g,0,none⟩) Q.length c2,.int .i64 0]) (by simp[results,Tryz.results78,go_sem]) rfl ?_
   have hv3':w3.ownsRow (w.heap.size+1) 144 5 (.slice A3 (q.length+1) c3') (q++ [i]).length (zQ (q++ [i])):=by
    rw[yC,List.length_append];have e:zQ [i]= [.int .i64 i.q,.int .i64 k,.int .i64 i.f,.int .i64 i.l,.int .i64 i.w]:=by simp only[zQ,Hb.out]
    rw[e];exact hv3
   have hup:=BO.upd (hO.ext jX) Hv.out (zL hg3) hv3' hat3 (Nat.le_refl _);refine⟨_,c2,_,?_,hup.base_ (by omega),But.ext hEw (y8 (zY hx)) (fun x hm=> ?_)⟩
   ·rw[List.length_set]
   ·rw[HSx.out]at hm
    rcases List.mem_cons.1 hm with rfl|hm
    ·omega
    ·have:=(hlv x (Option.mem_toList.1 hm)).1
     omega
 |some y=>
  have hlt:=hy y hl;have d3:decide (i.q<=y.q)=false:=decide_eq_false (by omega);clear hy;rw[hl]at hY;simp only[zbs]at hY;have HY:=Lib.hid hY;clear hl hY;go_upto_region 7 with(first|(go_at_call 87;refine(HY.out).mono ?_;rintro e w1 ⟨rfl,hE1⟩;replace k3:=k3.ext hE1;have c3:=k3.cell;have l3:=k3.lt)|(go_at_call 61;refine(vG _ _ _ Q _ (h.ext jX) hn Hm.out).mono ?_;rintro e w1 ⟨A2,c2,vs2,rfl,hO0,hE3⟩;have hz3:=k3.lt;replace k3:=(k3.alloc _).ext hE3;have c3:=k3.cell;have l3:=k3.lt;have hO:=hO0.base_ (b:=w.heap.size+1) (by have h1:=Hb3.out;have h2:=hz3;simp;omega);clear hO0));have hEw:Ext w w1:=by exact jX
  obtain⟨wa,hwa⟩: ∃wa,wa=w1:=⟨_,rfl⟩;subst hwa;obtain⟨g,P,pc,rfl,hv,zc,hv5,hg1,lg⟩:=hO.at_ Hq.out;have Hv:=Lib.hid hv;have hb3:=Hb3.out;have hwz:=hEw.size_le;have hlv:=World.ownsRow.lt hv5;have hgA: ∀b,(Value.slice (some ⟨g,0,none⟩) Q.length c2).ownBlock=some b->b∉(Value.slice P q.length pc).ownBlock.toList:=fun b hb hm=>yk hv5 hO.out (by decide) (Option.mem_toList.1 hm) hb
  obtain⟨Sx,hSx⟩: ∃Sx:List Nat,Sx=g::(Value.slice P q.length pc).ownBlock.toList:=⟨_,rfl⟩;have hgS:g∈Sx:=by rw[hSx];exact List.mem_cons_self
  have hAS: ∀x∈(Value.slice P q.length pc).ownBlock.toList,x∈Sx:=fun x hx=>by rw[hSx];exact List.mem_cons_of_mem _ hx
  have hb3S:b3∉Sx:=by
   rw[hSx];intro hm;rcases List.mem_cons.1 hm with hm|hm
   ·omega
   ·have:=(hlv b3 (Option.mem_toList.1 hm)).1
    omega
  have HSx:=Lib.hid hSx;clear hv hSx;refine zn (wa.heap.size) Sx (.take 0 (.take 1 (.take 2 (.take 3 (.take 4 (.take 5 (.take 6 (.take 8 (.alt 7 (.alt 9 (.alt 10 (.take 11 (.alt 12 .done .none)) .none) .none) (.alt 9 (.alt 7 (.alt 10 (.take 11 (.alt 12 .done .none)) .none) .none) .none)))))))))) Tryz.mixed (by kernel_rfl) ?_;intro hx;iterate 8 (first|refine jTN hx ?_|refine jTS ?_)
  refine jCN hx (fun K hK=> ?_) ?_;go_simp;first|refine hK _ _ jN ?_|refine hK undef _ jN ?_
  clear hK hx;intro hx;refine jp ?_;refine jCN hx (fun K hK=> ?_);go_simp;first|refine hK _ _ jN ?_|refine hK undef _ jN ?_
  clear hK hx;intro hx;refine jp ?_;refine jCN hx (fun K hK=> ?_);refine zX Tryz.elN _ _ rfl (w.heap.size+1) _ _ _ rfl (zm hv5 jX) _ 1 1 _ rfl (yF _ [_,_,_,_,_] 144 1 5 rfl) (by simp[Value.oneCell']) (by omega) (by omega) (by(first|omega|(simp;done)|(simp;omega))) ?_;intro A3 c3' w3 hv3 hg3 hat3;have kO3:=zo (zm hO.out jX) (zL hg3) hgA;have cO3:=(zz kO3).1 k _ Hv.out;have fO3:=(zz kO3).2;have lO3:=zh cO3;refine hK _ _ (((But.more (zL hg3) hAS).bel _)) ?_;clear hK hx;intro hx;refine jp ?_;first|refine jTN hx ?_|refine jTS ?_
  refine yl hx (fun K hK=> ?_);go_simp;refine hK _ ((Bel.setIn (p:=⟨g,k,none⟩) (Bel.refl _ _ _) hgS _)) ?_;clear hK hx;intro hx;refine zi ?_;rotate_left;refine jCN hx (fun K hK=> ?_);go_simp;first|refine hK _ _ jN ?_|refine hK undef _ jN ?_
  clear hK hx;intro hx;refine jp ?_;refine jCN hx (fun K hK=> ?_);go_simp;first|refine hK _ _ jN ?_|refine hK undef _ jN ?_
  clear hK hx;intro hx;refine jp ?_;refine jCN hx (fun K hK=> ?_);refine zX Tryz.elN _ _ rfl (w.heap.size+1) _ _ _ rfl (zm hv5 jX) _ 1 1 _ rfl (yF _ [_,_,_,_,_] 144 1 5 rfl) (by simp[Value.oneCell']) (by omega) (by omega) (by(first|omega|(simp;done)|(simp;omega))) ?_;intro A3 c3' w3 hv3 hg3 hat3;have kO3:=zo (zm hO.out jX) (zL hg3) hgA;have cO3:=(zz kO3).1 k _ Hv.out;have fO3:=(zz kO3).2;have lO3:=zh cO3;refine hK _ _ (((But.more (zL hg3) hAS).bel _)) ?_;clear hK hx;intro hx;refine jp ?_;first|refine jTN hx ?_|refine jTS ?_
  refine yl hx (fun K hK=> ?_);go_simp;refine hK _ ((Bel.setIn (p:=⟨g,k,none⟩) (Bel.refl _ _ _) hgS _)) ?_;clear hK hx;intro hx;refine zi ?_;rotate_left
  all_goals
   go_wp2;refine bodyPost_ret (v:= .tuple #[.slice (some ⟨g,0,none⟩) Q.length c2,.int .i64 0]) (by simp[results,Tryz.results78,go_sem]) rfl ?_
   have hv3':w3.ownsRow (w.heap.size+1) 144 5 (.slice A3 (q.length+1) c3') (q++ [i]).length (zQ (q++ [i])):=by
    rw[yC,List.length_append];have e:zQ [i]= [.int .i64 i.q,.int .i64 k,.int .i64 i.f,.int .i64 i.l,.int .i64 i.w]:=by simp only[zQ,Hb.out]
    rw[e];exact hv3
   have hup:=BO.upd (hO.ext jX) Hv.out (zL hg3) hv3' hat3 (Nat.le_refl _);refine⟨_,c2,_,?_,hup.base_ (by omega),But.ext hEw (y8 (zY hx)) (fun x hm=> ?_)⟩
   ·rw[List.length_set]
   ·rw[HSx.out]at hm
    rcases List.mem_cons.1 hm with rfl|hm
    ·omega
    ·have:=(hlv x (Option.mem_toList.1 hm)).1
     omega
theorem zc3: ∀(l:List Inc) (k:Nat) (i:Inc),zQ (l.set k i)=(((((zQ l).set (k*5) (.int .i64 i.q)).set (k*5+1) (.int .i64 i.b)).set (k*5+2) (.int .i64 i.f)).set (k*5+3) (.int .i64 i.l)).set (k*5+4) (.int .i64 i.w)
 | [],k,i=>by simp[zQ]
 |g::l,0,i=>by simp[zQ]
 |g::l,k+1,i=>by
  simp only[List.set_cons_succ,zQ];rw[show(k+1)*5=k*5+1+1+1+1+1 by omega];simp only[List.set_cons_succ];rw[zc3 l k i]
section
variable{w w':World} {base c:Nat} {A:Option Addr} {vs:List Value} {Q:List (List Inc)}
theorem BO.row{k:Nat}{u:Value}{q:List Inc}(h:BO w base A c vs Q)(hk:vs[k]? =some u)(hB:But u.ownBlock.toList w w')(hv:w'.ownsRow base 144 5 u q.length (zQ q)):BO w' base A c vs (Q.set k q):=by
 have hkl:=(List.getElem?_eq_some_iff.1 hk).1;obtain⟨qk,hqk⟩: ∃qk,Q[k]? =some qk:=⟨_,List.getElem?_eq_getElem (by rw[<-h.vl];exact hkl)⟩;have hu:=h.each k u qk hk hqk;refine⟨by rw[List.length_set];exact h.vl,?_,fun i u' l hu' hl=> ?_,h.apart⟩
 ·rw[List.length_set]
  exact zo h.out hB (fun b hb hm=>yk hu h.out (by decide) (Option.mem_toList.1 hm) hb)
 ·by_cases hik:k=i
  ·subst hik
   rw[List.getElem?_set_self (by rw[<-h.vl];exact hkl)]at hl;rw[hk]at hu';injection hu' with hu';injection hl with hl;subst hu' hl;exact hv
  ·rw[List.getElem?_set_ne hik]at hl
   exact zo (h.each i u' l hu' hl) hB (fun b hb hm=>hik (h.apart k i u u' b hk hu' (Option.mem_toList.1 hm) hb))
end
theorem zaw(A:Option Addr)(c k j:Nat)(vs:List Value)(Q:List (List Inc))(q:List Inc)(i x:Inc)(w:World)(h:BO w 0 A c vs Q)(hq:Q[k]? =some q)(hb:i.b=(k:Int))(hn:Q.length<=1000)(hm: ∀q∈Q,q.length<=10000)(hx:q[j]? =some x)(hxq:x.q=i.q)(hno: ∀y∈q.take j,y.q≠i.q):
 Calls Tryz.prog 79 #[.slice A Q.length c,.agg #[.int .i64 i.q,.int .i64 i.b,.int .i64 i.f,.int .i64 i.l,.int .i64 i.w]] w (zae w (Q.set k (q.set j i))):=by
 have hk:=(List.getElem?_eq_some_iff.1 hq).1;have hql:=hm q (List.mem_of_getElem? hq);have hkI:(k:Int)<Q.length:=by omega
 have d0:decide ((k:Int)<0)=false:=by(first|omega|(simp;done)|(simp;omega))
 have d1:decide ((Q.length:Int)<=k)=false:=by(first|omega|(simp;done)|(simp;omega))
 have d1':decide (Q.length<=k)=false:=by(first|omega|(simp;done)|(simp;omega))
 rw[hb];have Hq:=Lib.hid hq;have Hm:=Lib.hid hm;have Hb:=Lib.hid hb;have Hx:=Lib.hid hx;have Hxq:=Lib.hid hxq;have Hno:=Lib.hid hno;have hjl:=(List.getElem?_eq_some_iff.1 hx).1;clear hm hb hq hx hxq hno;go_enter Tryz.func79,Tryz.ntmps79;go_upto_region 1 with fail;have k3:Blk (w.alloc (.cells #[.int .i64 i.q,.int .i64 k,.int .i64 i.f,.int .i64 i.l,.int .i64 i.w] 144)) w.heap.size 144 #[.int .i64 i.q,.int .i64 k,.int .i64 i.f,.int .i64 i.l,.int .i64 i.w]:=Blk.new rfl;have hE0:=Ext.alloc (Ext.refl w) (.cells #[.int .i64 i.q,.int .i64 k,.int .i64 i.f,.int .i64 i.l,.int .i64 i.w] 144);generalize w.alloc (.cells #[.int .i64 i.q,.int .i64 k,.int .i64 i.f,.int .i64 i.l,.int .i64 i.w] 144)=W0 at*;obtain⟨b3,hb3⟩: ∃b3,w.heap.size=b3:=⟨_,rfl⟩;rw[hb3]at k3|-;have Hb3:=Lib.hid hb3;clear hb3;have c3:=k3.cell;have l3:=k3.lt;go_upto_region 4 with(first|(go_at_call 61;refine(vG _ _ _ Q _ (h.ext jX) hn Hm.out).mono ?_;rintro e w1 ⟨A2,c2,vs2,rfl,hO0,hE3⟩;have hz3:=k3.lt;replace k3:=k3.ext hE3;have c3:=k3.cell;have l3:=k3.lt;have hO:=hO0.base_ (b:=w.heap.size+1) (by have h1:=Hb3.out;have h2:=hz3;omega);clear hO0));have hEw:Ext w w1:=by exact jX
 obtain⟨wa,hwa⟩: ∃wa,wa=w1:=⟨_,rfl⟩;subst hwa;obtain⟨g,P,pc,rfl,hv,zc,hv5,hg1,lg⟩:=hO.at_ Hq.out;obtain⟨gq,rfl,hgq1,hgq2⟩:=yD hv5 (by omega);have Hv:=Lib.hid hv;have hne: ¬g=gq:=zaa hO.out hv5 (by decide);clear hv;go_wp2_with fail;go_loopw [27] (fun s wr=> ∃m:Nat,m<=j∧s= .int .i64 m∧Ext wa wr) (fun s _=>j-(intOf s).toNat);case atStart=>exact⟨0,by omega,rfl,by exact jX⟩
 case round=>
  obtain⟨m,hmj,rfl,hEr⟩:=hrel;have hOr:=hO.ext hEr;have k3r:=k3.ext hEr;have hvr:=zm hv5 hEr;have zr:=zp hEr zc;have lg':=zh zr;clear c3 l3;have c3:=k3r.cell;have l3:=k3r.lt;have hmq:m<q.length:=by omega
  have hdec:decide ((m:Int)<q.length)=true:=by simp;omega
  have hdec':decide (m<q.length)=true:=by simp;omega
  have hmI:(m:Int)<q.length:=by omega
  obtain⟨y,hy⟩: ∃y,q[m]? =some y:=⟨_,List.getElem?_eq_getElem hmq⟩;obtain⟨bD,oD,he,c0,c1,c2',c3',c4⟩:=xo (Rd.of_own hvr) hy;simp only[Option.some.injEq,Addr.mk.injEq,and_true]at he;obtain⟨rfl,rfl⟩:=he;simp only[Nat.zero_add]at c0 c1 c2' c3' c4;have lD:=zh c0;have fD:=(zz hvr).2;by_cases hlt:m<j
  ·have hyq:y.q≠i.q:=Hno.out y (List.mem_of_getElem? (i:=m) (by rw[List.getElem?_take,if_pos hlt];exact hy))
   have q1:(y.q==i.q)=false:=by simpa using hyq
   clear hyq hy;go_wp2_with fail;go_roundw;case rel=>exact⟨m+1,by omega,by go_num,by exact jX⟩
   case measure=>simp[intOf];omega
  ·have hmj2:m=j:=by omega
   subst hmj2
   have q1:(y.q==i.q)=true:=by
    rw[Hx.out]at hy;injection hy with hy;rw[<-hy];simpa using Hxq.out
   clear hy;go_upto_region 8 with fail;have hEW:=Ext.alloc (Ext.refl wr) (.cells #[.int .i64 y.q,.int .i64 y.b,.int .i64 y.f,.int .i64 y.l,.int .i64 y.w] 144);have hOW:=hOr.ext hEW;have k3W:=k3r.ext hEW;have hEwW:=(hEw.trans hEr).trans hEW;generalize wr.alloc (.cells #[.int .i64 y.q,.int .i64 y.b,.int .i64 y.f,.int .i64 y.l,.int .i64 y.w] 144)=W at*;clear zr lg' c3 l3 c0 c1 c2' c3' c4 lD fD;have zr:=(zz hOW.out).1 k _ Hv.out;have lg':=zh zr;have c3:=k3W.cell;have l3:=k3W.lt;have hvW:=hOW.each k _ q Hv.out Hq.out;obtain⟨bD,oD,he,c0,c1,c2',c3',c4⟩:=xo (Rd.of_own hvW) Hx.out;simp only[Option.some.injEq,Addr.mk.injEq,and_true]at he;obtain⟨rfl,rfl⟩:=he;simp only[Nat.zero_add]at c0 c1 c2' c3' c4;have lD:=zh c0;have fD:=(zz hvW).2;have n3: ¬b3=gq:=by have:=Hb3.out;omega
   refine jRB [gq] [(true,0),(true,1),(true,2),(true,3),(true,4),(true,5),(true,6),(true,7),(false,8)] Tryz.mixed fun hx hy=> ?_
   repeat(first
    |refine jLB hx ?_
    |refine jLS ?_
    |(refine yP hx (fun K hK=> ?_);go_simp;(first|refine hK _ _ jB ?_|refine hK undef _ jB ?_);clear hK hx;intro hx;try refine jq ?_)
    |(refine yP hx (fun K hK=> ?_);have hcy:=Ext.cell hy;have hfy:=Ext.froz hy;go_simp;(first|refine hK _ _ jB ?_|refine hK undef _ jB ?_);clear hK hx;intro hx;try refine jq ?_))
   refine zH ?_;go_wp2;refine bodyPost_ret (v:= .tuple #[.slice (some ⟨g,0,none⟩) Q.length c2,.int .i64 0]) (by simp[results,Tryz.results79,go_sem]) rfl ?_;have hvS:=y5 (yv (yv (yv (yv (yv hvW (m*5) (.int .i64 i.q)) (m*5+1) (.int .i64 k)) (m*5+2) (.int .i64 i.f)) (m*5+3) (.int .i64 i.l)) (m*5+4) (.int .i64 i.w));rw[<-Hb.out,<-zc3]at hvS;have hB:=y8 (zY (hx.bel W.heap.size));rw[<-Hb.out]at hB|-;have hup:=BO.row (q:=q.set m i) hOW Hv.out hB (by rw[List.length_set];exact hvS);refine⟨_,c2,_,?_,hup.base_ (by omega),But.ext hEwW hB (fun x hm=> ?_)⟩
   ·rw[List.length_set]
   ·have:=List.mem_singleton.1 hm
    omega
theorem jQ: ∀(l:List Inc) (k:Nat),(zQ l).take (k*5)=zQ (l.take k)
 |l,0=>by simp[zQ]
 | [],k+1=>by simp[zQ]
 |g::l,k+1=>by
  rw[show(k+1)*5=k*5+1+1+1+1+1 by omega];simp only[zQ,List.take_succ_cons,jQ l k]
theorem zbt: ∀(l:List Inc) (k:Nat),(zQ l).drop (k*5)=zQ (l.drop k)
 |l,0=>by simp
 | [],k+1=>by simp[zQ]
 |g::l,k+1=>by
  rw[show(k+1)*5=k*5+1+1+1+1+1 by omega];simp only[zQ,List.drop_succ_cons,zbt l k]
theorem zg5(A:Option Addr)(c k j:Nat)(vs:List Value)(Q:List (List Inc))(q:List Inc)(x:Inc)(z:Int)(w:World)(h:BO w 0 A c vs Q)(hq:Q[k]? =some q)(hn:Q.length<=1000)(hm: ∀q∈Q,q.length<=10000)(hx:q[j]? =some x)(hxq:x.q=z)(hno: ∀y∈q.take j,y.q≠z)(hno2: ∀y∈(Q.take k).flatten,y.q≠z):
 Calls Tryz.prog 112 #[.slice A Q.length c,.int .i64 z] w (zae w (Q.set k (q.eraseIdx j))):=by
 have hk:=(List.getElem?_eq_some_iff.1 hq).1;have hql:=hm q (List.mem_of_getElem? hq);have Hq:=Lib.hid hq;have Hm:=Lib.hid hm;have Hx:=Lib.hid hx;have Hxq:=Lib.hid hxq;have Hno:=Lib.hid hno;have Hno2:=Lib.hid hno2;have hjl:=(List.getElem?_eq_some_iff.1 hx).1;clear hm hq hx hxq hno hno2;go_enter Tryz.func112,Tryz.ntmps112;go_wp2_with(first|(go_at_call 61;refine(vG _ _ _ Q _ (h.ext jX) hn Hm.out).mono ?_;rintro e w1 ⟨A2,c2,vs2,rfl,hO,hE3⟩));have hEw:Ext w w1:=by exact jX
 have hszw:=hEw.size_le;obtain⟨wa,hwa⟩: ∃wa,wa=w1:=⟨_,rfl⟩;subst hwa;go_loopw [15] (fun s wr=> ∃m:Nat,m<=k∧s= .int .i64 m∧Ext wa wr) (fun s _=>k-(intOf s).toNat);case atStart=>exact⟨0,by omega,rfl,by exact jX⟩
 case round=>
  obtain⟨m,hmk,rfl,hEr⟩:=hrel;have hmQ:m<Q.length:=by omega
  have hdec:decide ((m:Int)<Q.length)=true:=by simp;omega
  have hdec':decide (m<Q.length)=true:=by simp;omega
  have hmI:(m:Int)<Q.length:=by omega
  obtain⟨p,hp⟩: ∃p,Q[m]? =some p:=⟨_,List.getElem?_eq_getElem hmQ⟩;obtain⟨g,P,pc,rfl,hv,zc,hv5,hg1,lg⟩:=(hO.ext hEr).at_ hp;have hpl:=Hm.out p (List.mem_of_getElem? hp);have Hv:=Lib.hid hv;have Hp:=Lib.hid hp;clear hv hp;by_cases hlt:m<k
  ·go_wp2_with fail
   go_loopw [22] (fun s wq=> ∃n:Nat,n<=p.length∧s= .int .i64 n∧Ext wr wq) (fun s _=>p.length-(intOf s).toNat);case atStart=>exact⟨0,by omega,rfl,by exact jX⟩
   case round=>
    have hEr0:=hEr;clear hEr;obtain⟨n,hnp,rfl,hEq⟩:=hrel;by_cases hnl:n<p.length
    ·have hjec:decide ((n:Int)<p.length)=true:=by simp;omega
     have hjec':decide (n<p.length)=true:=by simp;omega
     have hjI:(n:Int)<p.length:=by omega
     obtain⟨y,hy⟩: ∃y,p[n]? =some y:=⟨_,List.getElem?_eq_getElem hnl⟩
     have hyq:y.q≠z:=Hno2.out y (by
      rw[List.mem_flatten];exact⟨p,List.mem_of_getElem? (i:=m) (by rw[List.getElem?_take,if_pos hlt];exact Hp.out),List.mem_of_getElem? hy⟩)
     obtain⟨bD,oD,he,c0,c1,c2',c3',c4⟩:=xo (Rd.of_own (zm hv5 hEq)) hy;subst he;have lD:=zh c0;have q1:(y.q==z)=false:=by simpa using hyq
     clear hyq hy;go_wp2_with fail;go_roundw;case rel=>exact⟨n+1,by omega,by go_num,by exact jX⟩
     case measure=>simp[intOf];omega
    ·have hjec:decide ((n:Int)<p.length)=false:=by simp;omega
     have hjec':decide (n<p.length)=false:=by simp;omega
     go_wp2_with fail;go_roundw;case rel=>exact⟨m+1,by omega,by go_num,hEr0.trans hEq⟩
     case measure=>simp[intOf];omega
  ·have hmk2:m=k:=by omega
   subst hmk2;have hpq:p=q:=by have:=Hp.out;rw[Hq.out]at this;injection this with this;exact this.symm
   subst hpq;obtain⟨gq,rfl,hgq1,hgq2⟩:=yD hv5 (by omega);have hpcap:=vX hv5;go_wp2_with fail;go_loopw [22] (fun s wq=> ∃n:Nat,n<=j∧s= .int .i64 n∧Ext wr wq) (fun s _=>j-(intOf s).toNat);case atStart=>exact⟨0,by omega,rfl,by exact jX⟩
   case round=>
    have hEr0:=hEr;clear hEr;obtain⟨n,hnj,rfl,hEq⟩:=hrel;have hnl:n<p.length:=by omega
    have hjec:decide ((n:Int)<p.length)=true:=by simp;omega
    have hjec':decide (n<p.length)=true:=by simp;omega
    have hjI:(n:Int)<p.length:=by omega
    obtain⟨y,hy⟩: ∃y,p[n]? =some y:=⟨_,List.getElem?_eq_getElem hnl⟩;obtain⟨bD,oD,he,c0,c1,c2',c3',c4⟩:=xo (Rd.of_own (zm hv5 hEq)) hy;simp only[Option.some.injEq,Addr.mk.injEq,and_true]at he;obtain⟨rfl,rfl⟩:=he;simp only[Nat.zero_add]at c0 c1 c2' c3' c4;have lD:=zh c0;by_cases hnlt:n<j
    ·have hyq:y.q≠z:=Hno.out y (List.mem_of_getElem? (i:=n) (by rw[List.getElem?_take,if_pos hnlt];exact hy))
     have q1:(y.q==z)=false:=by simpa using hyq
     clear hyq hy;go_wp2_with fail;go_roundw;case rel=>exact⟨n+1,by omega,by go_num,by exact jX⟩
     case measure=>simp[intOf];omega
    ·have hnj2:n=j:=by omega
     subst hnj2
     have q1:(y.q==z)=true:=by
      rw[Hx.out]at hy;injection hy with hy;rw[<-hy];simpa using Hxq.out
     clear hy;go_upto_region 9 with fail;have hEW:=Ext.alloc (Ext.refl wr) (.cells #[.int .i64 y.q,.int .i64 y.b,.int .i64 y.f,.int .i64 y.l,.int .i64 y.w] 144);have hEaW:=(hEr0.trans hEq).trans hEW;have hOW:=hO.ext hEaW;generalize wr.alloc (.cells #[.int .i64 y.q,.int .i64 y.b,.int .i64 y.f,.int .i64 y.l,.int .i64 y.w] 144)=W at*;clear c0 c1 c2' c3' c4 lD q1 zc;have zc:=(zz hOW.out).1 m _ Hv.out;have lg':=zh zc;have hvW:=hOW.each m _ p Hv.out Hp.out;have hszW:=hEaW.size_le;have hgs:=World.ownsRow.lt hO.out g rfl;obtain⟨j1,hj1⟩: ∃j1,n+1=j1:=⟨_,rfl⟩;have hj1I:(n:Int)+1=(j1:Int):=by omega
     have hj1l:j1<=p.length:=by omega
     have hT:=Lib.hid (zu (base':=w.heap.size) (ze3 hvW (k:=n) (by omega)) (by omega))
     have HD0:=Lib.hid (show Rd W (some ⟨gq,j1*5,none⟩) (p.length-j1) 5 (zQ (p.drop j1)) by
      have:=zdx (Rd.of_own hvW) hj1l (some ⟨gq,j1*5,none⟩) (fun _=>by rw[Nat.zero_add]);rwa[zbt]at this)
     have Hj1:=Lib.hid hj1;have hgA: ∀b,(Value.slice (some ⟨g,0,none⟩) Q.length c2).ownBlock=some b->b∉(Value.slice (some ⟨gq,0,none⟩) p.length pc).ownBlock.toList:=fun b hb hm=>yk hvW hOW.out (by decide) (Option.mem_toList.1 hm) hb
     have hgS:g∈ [g,gq]:=by simp
     have hAS: ∀x∈(Value.slice (some ⟨gq,0,none⟩) p.length pc).ownBlock.toList,x∈ [g,gq]:=fun x hx=>by simp[Value.ownBlock]at hx;simp[hx]
     have hnc:n<=pc:=by omega
     have hncI:(n:Int)<=pc:=by omega
     have hj1pI:(j1:Int)<=p.length:=by omega
     clear hj1;by_cases hpc:pc=j1
     ·have HD:=Lib.hid (show Rd W (some ⟨gq,0,none⟩) (p.length-j1) 5 (zQ (p.drop j1)) by
       rw[List.drop_of_length_le (by omega),show p.length-j1=0 by omega];exact Rd.nil_ _ _ _)
      have hpc':(pc=j1)=True:=by simp[hpc]
      clear hpc;refine zn (W.heap.size) [g,gq] (.take 0 (.take 1 (.take 2 (.take 3 (.take 4 (.take 5 (.take 6 (.take 7 (.take 8 (.alt 9 (.take 10 (.alt 11 .done .none)) .none)))))))))) Tryz.mixed (by kernel_rfl) ?_;intro hx;iterate 9 (first|refine jTN hx ?_|refine jTS ?_)
      refine jCN hx (fun K hK=> ?_);refine zX Tryz.elN _ _ rfl w.heap.size _ _ _ rfl (zm hT.out jX) _ _ _ _ rfl (HD.out.ext jX) (v8 _) (by omega) (by omega) (by(first|omega|(simp;done)|(simp;omega))) ?_;intro A3 c3 w3 hv3 hg3 hat3;have kO3:=zo (zm hOW.out jX) (zL hg3) hgA;have cO3:=(zz kO3).1 m _ Hv.out;have fO3:=(zz kO3).2;have lO3:=zh cO3;refine hK _ _ (((But.more (zL hg3) hAS).bel _)) ?_;clear hK hx;intro hx;refine jp ?_;first|refine jTN hx ?_|refine jTS ?_
      refine yl hx (fun K hK=> ?_);go_simp;refine hK _ ((Bel.setIn (p:=⟨g,m,none⟩) (Bel.refl _ _ _) hgS _)) ?_;clear hK hx;intro hx;refine zi ?_;go_wp2;refine bodyPost_ret (v:= .tuple #[.slice (some ⟨g,0,none⟩) Q.length c2,.int .i64 0]) (by simp[results,Tryz.results112,go_sem]) rfl ?_;have he:p.eraseIdx n=p.take n++p.drop j1:=by rw[List.eraseIdx_eq_take_drop_succ,Hj1.out]
      have hv3':w3.ownsRow w.heap.size 144 5 (.slice A3 (n+(p.length-j1)) c3) (p.eraseIdx n).length (zQ (p.eraseIdx n)):=by
       rw[he,List.length_append,List.length_take,List.length_drop,Nat.min_eq_left (by omega),yC,<-jQ];exact hv3
      have hup:=BO.upd (hOW.ext jX) Hv.out (zL hg3) hv3' hat3 (Nat.le_refl _);refine⟨_,c2,_,?_,hup.base_ (by omega),But.ext (hEw.trans hEaW) (y8 (zY hx)) (fun x hm=> ?_)⟩
      ·rw[List.length_set]
      ·simp only[List.mem_cons,List.not_mem_nil,or_false]at hm
       omega
     ·have HD:=HD0
      refine zn (W.heap.size) [g,gq] (.take 0 (.take 1 (.take 2 (.take 3 (.take 4 (.take 5 (.take 6 (.take 7 (.take 8 (.alt 9 (.take 10 (.alt 11 .done .none)) .none)))))))))) Tryz.mixed (by kernel_rfl) ?_;intro hx;iterate 9 (first|refine jTN hx ?_|refine jTS ?_)
      refine jCN hx (fun K hK=> ?_);refine zX Tryz.elN _ _ rfl w.heap.size _ _ _ rfl (zm hT.out jX) _ _ _ _ rfl (HD.out.ext jX) (v8 _) (by omega) (by omega) (by(first|omega|(simp;done)|(simp;omega))) ?_;intro A3 c3 w3 hv3 hg3 hat3;have kO3:=zo (zm hOW.out jX) (zL hg3) hgA;have cO3:=(zz kO3).1 m _ Hv.out;have fO3:=(zz kO3).2;have lO3:=zh cO3;refine hK _ _ (((But.more (zL hg3) hAS).bel _)) ?_;clear hK hx;intro hx;refine jp ?_;first|refine jTN hx ?_|refine jTS ?_
      refine yl hx (fun K hK=> ?_);go_simp;refine hK _ ((Bel.setIn (p:=⟨g,m,none⟩) (Bel.refl _ _ _) hgS _)) ?_;clear hK hx;intro hx;refine zi ?_;go_wp2;refine bodyPost_ret (v:= .tuple #[.slice (some ⟨g,0,none⟩) Q.length c2,.int .i64 0]) (by simp[results,Tryz.results112,go_sem]) rfl ?_;have he:p.eraseIdx n=p.take n++p.drop j1:=by rw[List.eraseIdx_eq_take_drop_succ,Hj1.out]
      have hv3':w3.ownsRow w.heap.size 144 5 (.slice A3 (n+(p.length-j1)) c3) (p.eraseIdx n).length (zQ (p.eraseIdx n)):=by
       rw[he,List.length_append,List.length_take,List.length_drop,Nat.min_eq_left (by omega),yC,<-jQ];exact hv3
      have hup:=BO.upd (hOW.ext jX) Hv.out (zL hg3) hv3' hat3 (Nat.le_refl _);refine⟨_,c2,_,?_,hup.base_ (by omega),But.ext (hEw.trans hEaW) (y8 (zY hx)) (fun x hm=> ?_)⟩
      ·rw[List.length_set]
      ·simp only[List.mem_cons,List.not_mem_nil,or_false]at hm
       omega
theorem Tryz.elU:Elem Tryz.prog 32 4 (.bool false) 1 1:=⟨Tryz.underlying32,by kernel_rfl,rfl,by omega⟩
theorem zj1(zs:List Bool): ∀u∈qe zs,u.oneCell'=true:=by
 intro u hu;simp only[qe,List.mem_map]at hu;obtain⟨z,_,rfl⟩:=hu;rfl
structure RO(w:World)(base:Nat)(U:Option Addr)(cu:Nat)(R:Option Addr)(cr:Nat)(us:List Bool)(rs:List Int):Prop where
 u:w.ownsRow base 4 1 (.slice U us.length cu) us.length (qe us)
 r:w.ownsRow base 67 1 (.slice R rs.length cr) rs.length (words rs)
section
variable{w w':World} {base cu cr:Nat} {U R:Option Addr} {us:List Bool} {rs:List Int}
theorem RO.ext(h:RO w base U cu R cr us rs)(he:Ext w w'):RO w' base U cu R cr us rs:=⟨zm h.u he,zm h.r he⟩
theorem RO.base_(h:RO w base U cu R cr us rs){b:Nat}(hb:b<=base):RO w b U cu R cr us rs:=⟨zu h.u hb,zu h.r hb⟩
end
def zr2(w:World)(us:List Bool)(rs:List Int)(r:Ending)(w':World):Prop:= ∃U cu R cr,r= .returned (.agg #[.slice U us.length cu,.slice R rs.length cr])∧RO w' w.heap.size U cu R cr us rs∧Ext w w'
def zmi(us:List Bool)(rs:List Int):Prop:=us.length=32∧rs.length=32∧∀k:Nat,us[k]? =some false->rs[k]? =some 0
theorem zaf(U R:Option Addr)(cu cr:Nat)(us:List Bool)(rs:List Int)(w:World)(h:RO w 0 U cu R cr us rs)(hn:us.length<=1000)(hm:rs.length<=1000):
 Calls Tryz.prog 63 #[.agg #[.slice U us.length cu,.slice R rs.length cr]] w (zr2 w us rs):=by
 have hu:=Rd.of_own h.u;have hr:=Rd.of_own h.r;go_enter Tryz.func63,Tryz.ntmps63;go_wp2;refine jRB [w.heap.size+1] [(true,0),(true,1),(true,3),(true,4),(false,2),(false,5),(true,6),(false,7)] Tryz.mixed fun hx hy=> ?_
 repeat(first
  |refine jLB hx ?_
  |refine jLS ?_
  |(refine yP hx (fun K hK=> ?_);refine yL Tryz.elU _ _ rfl rfl _ _ _ _ (qe us) rfl (hu.ext jX) (zj1 us) (by omega) (by omega) (Nat.le_refl _) ?_;intro B d w1 hB hE;have hz:=hE.size_le;simp at hz;refine hK _ _ ((hE).but _) ?_;clear hK hx;intro hx;replace hy:=Ext.trans hy (Ext.trans jX (hE));refine jq ?_)
  |(refine yP hx (fun K hK=> ?_);refine yL Tryz.elW _ _ rfl rfl _ _ _ _ (words rs) rfl (hr.ext jX) (v5 rs) (by omega) (by omega) (Nat.le_refl _) ?_;intro B' d' w1 hB' hE';refine hK _ _ ((hE').but _) ?_;clear hK hx;intro hx;replace hy:=Ext.trans hy (Ext.trans jX (hE'));refine jq ?_)
  |(refine yP hx (fun K hK=> ?_);go_simp;(first|refine hK _ _ jB ?_|refine hK undef _ jB ?_);clear hK hx;intro hx;try refine jq ?_)
  |(refine yP hx (fun K hK=> ?_);have hcy:=Ext.cell hy;have hfy:=Ext.froz hy;go_simp;(first|refine hK _ _ jB ?_|refine hK undef _ jB ?_);clear hK hx;intro hx;try refine jq ?_))
 refine zH ?_;go_wp2;refine bodyPost_ret (v:= .agg #[.slice B us.length d,.slice B' rs.length d']) (by simp[results,Tryz.results63,go_sem,hcy]) rfl ⟨B,d,B',d',rfl,⟨?_,?_⟩,?_⟩
 ·exact zu (yu (yu (zm hB hE') (by(first|omega|(simp;done)|(simp;omega))) _) (by(first|omega|(simp;done)|(simp;omega))) _) (by(first|omega|(simp;done)|(simp;omega)))
 ·exact zu (yu (yu hB' (by(first|omega|(simp;done)|(simp;omega))) _) (by(first|omega|(simp;done)|(simp;omega))) _) (by(first|omega|(simp;done)|(simp;omega)))
 ·refine Ext.setCell (Ext.setCell ?_ (by simp) _) (by simp) _
  exact jX
theorem zbu(U R:Option Addr)(cu cr:Nat)(us:List Bool)(rs:List Int)(w:World)(h:RO w 0 U cu R cr us rs)(hk:zmi us rs):
 Calls Tryz.prog 80 #[.agg #[.slice U us.length cu,.slice R rs.length cr]] w fun r w'=>r= .returned (.bool true)∧Ext w w':=by
 have hu:=Rd.of_own h.u;have hr:=Rd.of_own h.r;have hul:=hk.1;have hrl:=hk.2.1;have Hz:=Lib.hid hk.2.2;rw[hul]at hu;rw[hrl]at hr;have Hul:=Lib.hid hul;have Hrl:=Lib.hid hrl;rw[hul,hrl];clear hk hul hrl h;go_enter Tryz.func80,Tryz.ntmps80;go_wp2;have k0:Blk (w.alloc (.cells #[.slice U 32 cu,.slice R 32 cr] 34)) w.heap.size 34 #[.slice U 32 cu,.slice R 32 cr]:=Blk.new rfl;have hE0:=Ext.alloc (Ext.refl w) (.cells #[.slice U 32 cu,.slice R 32 cr] 34);generalize w.alloc (.cells #[.slice U 32 cu,.slice R 32 cr] 34)=W at*;have c0:=k0.cell;have l0:=k0.lt;go_loop [18] (fun s=> ∃k:Nat,k<=32∧s= .int .i64 k) (fun s=>32-(intOf s).toNat);case atStart=>exact⟨0,by omega,rfl⟩
 case round=>
  obtain⟨k,hk,rfl⟩:=hrel;by_cases hlt:k<32
  ·have hdec:decide ((k:Int)<32)=true:=by simp;omega
   have hdec':decide (k<32)=true:=by simp;omega
   have hkI:(k:Int)<32:=by omega
   obtain⟨u,hu1⟩: ∃u,us[k]? =some u:=⟨_,List.getElem?_eq_getElem (by rw[Hul.out];exact hlt)⟩;obtain⟨bU,oU,rfl,u0⟩:=j7 (hu.ext hE0) hu1;have lU:=zh u0;obtain⟨v,hv1⟩: ∃v,rs[k]? =some v:=⟨_,List.getElem?_eq_getElem (by rw[Hrl.out];exact hlt)⟩;obtain⟨bR,oR,rfl,r0⟩:=xw (hr.ext hE0) hv1;have lR:=zh r0;cases u with
   |true=>
    clear hu1 hv1;go_wp2
    go_round
    case rel=>exact⟨k+1,by omega,by go_num⟩
    case measure=>simp[intOf];omega
   |false=>
    have hv0:v=0:=by
     have:=Hz.out k hu1;rw[hv1]at this;injection this
    subst hv0;clear hu1 hv1;go_wp2
    go_round
    case rel=>exact⟨k+1,by omega,by go_num⟩
    case measure=>simp[intOf];omega
  ·have hke:k=32:=by omega
   subst hke;go_wp2;go_ret;exact⟨rfl,hE0⟩
end Go.Proofs.YtopcdfbplknmlaaGreat
