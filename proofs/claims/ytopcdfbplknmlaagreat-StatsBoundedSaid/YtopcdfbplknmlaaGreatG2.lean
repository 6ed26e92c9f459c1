/- Part of the proof of the claim: walks and plain laws; each theorem states its own conditions. -/
import Derived.Test.YtopcdfbplknmlaaGreatL
import Derived.Test.YtopcdfbplknmlaaGreatG1
set_option linter.all false
set_option maxHeartbeats 4000000
set_option maxRecDepth 100000
namespace Go.Proofs.YtopcdfbplknmlaaGreat
open Go.RowKit Go.Draw
structure Rn(S0 S:Sp)(B:Nat)(C R:List In)(T0 T:In)(M:List (AO×AO))(sc:Nat->Nat->Prop):Prop where
 lay:Lay S B (T::(R++C))
 cy:Cy (aos B C) S0.w S.w M sc
 obs: ∃nb,T.obs=T0.obs++nb∧M.map (·.2)=nb.map (zZ B T.x.c)
 chn: ∃d,T.x.c=T0.x.c++d
 q:T.x.q=T0.x.q
 b:T.x.b=T0.x.b
 wd:T.wd=T0.wd+(M.map (·.1.n)).sum
 ln:S.ws.length=S0.ws.length∧S.fs.length=S0.fs.length∧S.sh=S0.sh
section
variable{S0 S:Sp} {B:Nat} {C R I:List In} {T0 T:In} {M:List (AO×AO)} {sc:Nat->Nat->Prop}
theorem Rn.start(h:Lay S0 B (T0::(R++C))):Rn S0 S0 B C R T0 T0 [] sc:=
 ⟨h,Cy.start _ _ _,⟨[],by simp,by simp⟩,⟨[],by simp⟩,rfl,rfl,by simp,rfl,rfl,rfl⟩
theorem Lay.diff(h:Lay S B I){i j:In}(hi:i∈I)(hj:j∈I)(hq:i.x.q≠j.x.q){b b':Ob}(hb:b∈i.obs)(hb':b'∈j.obs){k l:Nat}(hk:k<b.n)(hl:l<b'.n):(zZ B i.x.c b).f k≠(zZ B j.x.c b').f l:=by
 intro he;rw[yn hk,yn hl]at he;obtain⟨h1,_⟩:=qx h.ch (by have:=h.B8;omega) (h.mem hi) (h.mem hj) (h.in_ hi hb hk) (h.in_ hj hb' hl) he;exact hq (by rw[h1])
theorem Lay.bd(h:Lay S B I){i:In}(hi:i∈I){b:Ob}(hb:b∈i.obs):b.o+b.n<=i.x.c.length*B:=by
 have h1:=yS.mem (h.tile i hi) b hb;have h2:=xL (B:=B) (by have:=h.B8;omega) (Nat.le_of_eq (h.fit i hi));omega
theorem Lay.head_ne(h:Lay S B (T::I)){i:In}(hi:i∈I):T.x.q≠i.x.q:=by
 have hq:=h.ch.sq;simp only[List.map_cons,List.nodup_cons,List.mem_map,not_exists,not_and]at hq;intro e;exact hq.1 i.x ⟨i,hi,rfl⟩ e.symm
theorem Rn.push(h:Rn S0 S B C R T0 T M sc){o:AO}(ho:o∈aos B C)(hM:o.f 0∉M.map (·.1.f 0)){fs:List Fr}{c:List Nat}{ws:List Int}(hfs:fs.length=S.fs.length)(hcl:yJ (T.wd+o.n) B=c.length)(hcd: ∃d,c=T.x.c++d)
 (hch:Chs ⟨S.sh,ws,fs⟩ (⟨T.x.q,T.x.b,c⟩::(R++C).map (·.x))) (hwl:ws.length=S.ws.length) (hcp: ∀k,k<o.n->ws.getD (zy c B (T.wd+k)) 0=S.w (o.f k)∨k=0) (hhd:ws.getD (zy c B T.wd) 0=S.w (o.f 0)) (hfw:ws.getD (o.f 0) 0=2*(zy c B T.wd:Int)+1)
 (hx: ∀t,t≠o.f 0->(∀k,k<o.n->t≠zy c B (T.wd+k)) ->ws.getD t 0=S.w t) (hs: ∀e,¬sc M.length e):
 Rn S0 ⟨S.sh,ws,fs⟩ B C R T0 ⟨⟨T.x.q,T.x.b,c⟩,T.wd+o.n,T.obs++ [⟨T.wd,o.r,o.d⟩]⟩ (M++ [(o,zZ B c ⟨T.wd,o.r,o.d⟩)]) sc:=by
 have hT:=h.lay.tile T List.mem_cons_self
 have hlay:Lay ⟨S.sh,ws,fs⟩ B (⟨⟨T.x.q,T.x.b,c⟩,T.wd+o.n,T.obs++ [⟨T.wd,o.r,o.d⟩]⟩::(R++C)):=by
  refine⟨h.lay.pow,hch,?_,?_⟩
  ·intro i hi
   rcases List.mem_cons.1 hi with rfl|hi
   ·exact hcl
   ·exact h.lay.fit i (List.mem_cons_of_mem _ hi)
  ·intro i hi
   rcases List.mem_cons.1 hi with rfl|hi
   ·exact hT.snoc o.r o.d
   ·exact h.lay.tile i (List.mem_cons_of_mem _ hi)
 have hB0:0<B:=by have:=h.lay.B8;omega
 obtain⟨d,rfl⟩:=hcd;have happ: ∀b∈T.obs,zZ B (T.x.c++d) b=zZ B T.x.c b:=fun b hb=>v7 hB0 (h.lay.bd List.mem_cons_self hb)
 obtain⟨nb,hnb,hMn⟩:=h.obs
 have hN: ∀p∈M,∃b∈T.obs,p.2=zZ B (T.x.c++d) b:=fun p hp=>by
  have:p.2∈nb.map (zZ B T.x.c):=by rw[<-hMn];exact List.mem_map.2 ⟨p,hp,rfl⟩
  obtain⟨b,hb,e⟩:=List.mem_map.1 this;have hbT:b∈T.obs:=by rw[hnb];exact List.mem_append_right _ hb
  exact⟨b,hbT,by rw[happ b hbT,e]⟩
 have hnf: ∀k,k<o.n->(zZ B (T.x.c++d) ⟨T.wd,o.r,o.d⟩).f k=zy (T.x.c++d) B (T.wd+k):=fun k hk=>yn (b:=⟨T.wd,o.r,o.d⟩) hk
 have hin: ∀k,k<o.n->T.wd+k<(T.x.c++d).length*B:=fun k hk=>by
  have:=xL (B:=B) (by omega) (Nat.le_of_eq hcl);omega
 have h0:0<o.n:=by unfold AO.n;omega
 refine⟨hlay,?_,⟨nb++ [⟨T.wd,o.r,o.d⟩],by rw[hnb,List.append_assoc],?_⟩,?_,h.q,h.b,?_,?_⟩
 ·refine h.cy.push (w':=Sp.w ⟨S.sh,ws,fs⟩) (fun a ha a' ha'=>hlay.apart a (qK (fun i hi=>List.mem_cons_of_mem _ (List.mem_append_right _ hi)) ha) a' (qK (fun i hi=>List.mem_cons_of_mem _ (List.mem_append_right _ hi)) ha')) ho hM rfl rfl ?_ ?_ ?_ ?_ ?_ ?_ hs
  ·intro k hk o' ho' j hj
   obtain⟨i,hi,b,hb,rfl⟩:=zK.1 ho';exact hlay.diff List.mem_cons_self (List.mem_cons_of_mem _ (List.mem_append_right _ hi)) (h.lay.head_ne (List.mem_append_right _ hi)) (List.mem_append_right _ (List.mem_singleton.2 rfl)) hb hk hj
  ·intro p hp k l hk hl he
   obtain⟨b,hb,e⟩:=hN p hp;rw[e]at he hl;have hl':l<b.n:=hl;have hk':k<o.n:=hk;rw[hnf k hk',yn hl']at he;have h1:=yS.mem hT b hb;obtain⟨_,h2⟩:=qx hlay.ch hB0 (List.mem_cons_self) (List.mem_cons_self) (hin k hk') (hlay.in_ List.mem_cons_self (List.mem_append_left _ hb) hl') he;omega
  ·intro k l hk hl he
   rw[hnf k hk,hnf l hl]at he;obtain⟨_,h2⟩:=qx hlay.ch hB0 (List.mem_cons_self) (List.mem_cons_self) (hin k hk) (hin l hl) he;omega
  ·intro k hk
   rw[hnf k hk];rcases hcp k hk with h1|h1
   ·exact h1
   ·subst h1
    exact hhd
  ·rw[hnf 0 h0]
   exact hfw
  ·intro t ht1 ht2
   exact hx t ht1 (fun k hk=>by rw[<-hnf k hk];exact ht2 k hk)
 ·rw[List.map_append,hMn,List.map_append]
  congr 1;exact List.map_congr_left (fun b hb=>(happ b (by rw[hnb];exact List.mem_append_right _ hb)).symm)
 ·obtain⟨d',hd'⟩:=h.chn
  exact⟨d'++d,by rw[hd',List.append_assoc]⟩
 ·rw[List.map_append,List.sum_append,h.wd]
  simp only[List.map_cons,List.map_nil,List.sum_cons,List.sum_nil];omega
 ·exact⟨hwl.trans h.ln.1,hfs.trans h.ln.2.1,h.ln.2.2⟩
theorem Rn.scan{sc':Nat->Nat->Prop}(h:Rn S0 S B C R T0 T M sc){i:Nat}{p:AO×AO}{e:Nat}{v:Int}{ws:List Int}(hp:M[i]? =some p)(he:e<p.1.r)(hv:Fwd (aos B C) M (S0.w (p.1.f (1+e))) v)(hws:ws=S.ws.set (p.2.f (1+e)) v)(hl:p.2.f (1+e)<S.ws.length)
 (hch:Chs ⟨S.sh,ws,S.fs⟩ ((T::(R++C)).map (·.x))) (hs: ∀j k,sc' j k↔sc j k∨(j=i∧k=e)):Rn S0 ⟨S.sh,ws,S.fs⟩ B C R T0 T M sc':=by
 subst hws;refine⟨⟨h.lay.pow,hch,h.lay.fit,h.lay.tile⟩,h.cy.scan (w':=Sp.w ⟨S.sh,S.ws.set (p.2.f (1+e)) v,S.fs⟩) hp he hv ?_ ?_ hs,h.obs,h.chn,h.q,h.b,h.wd,by simpa using h.ln.1,h.ln.2⟩
 ·simp[Sp.w,List.getD_eq_getElem?_getD,hl]
 ·intro t ht
  simp only[Sp.w,List.getD_eq_getElem?_getD,List.getElem?_set_ne ht.symm]
theorem Rn.same{sc':Nat->Nat->Prop}(h:Rn S0 S B C R T0 T M sc)(hs: ∀i e,i<M.length->(sc' i e↔sc i e)):Rn S0 S B C R T0 T M sc':=
 ⟨h.lay,h.cy.same hs,h.obs,h.chn,h.q,h.b,h.wd,h.ln⟩
end
theorem zjq{L L':List Ch}(h:L.Perm L'):(used L).Perm (used L'):=by
 unfold used;exact h.flatMap_right _
theorem Chs.perm{S:Sp}{L L':List Ch}(h:Chs S L)(hp:L.Perm L'):Chs S L':=by
 have hu:=zjq hp;refine⟨h.sh,h.n2,h.wl,fun x hx=>h.ids x (hp.mem_iff.2 hx),(hp.map _).nodup_iff.1 h.sq,fun x hx=>h.fr x (hp.mem_iff.2 hx),hu.nodup_iff.1 h.nd,fun f hf hn=>h.free f hf (fun hm=>hn (hu.mem_iff.1 hm)),fun f hf hn=>h.zero f hf (fun hm=>hn (hu.mem_iff.1 hm))⟩
theorem Chs.clear{S:Sp}{x:Ch}{L:List Ch}(h:Chs S (x::L)){ws:List Int}{fs:List Fr}(hfl:fs.length=S.fs.length)(hwl:ws.length=S.ws.length)(hf: ∀f:Nat,f∈x.c->fs[f]? =some qS)(hf': ∀f:Nat,f∉x.c->fs[f]? =S.fs[f]?)
 (hw: ∀f:Nat,f∈x.c-> ∀j,j<2^S.sh->ws[f*2^S.sh+j]? =some 0) (hw': ∀f:Nat,f<S.fs.length->f∉x.c-> ∀j,j<2^S.sh->ws[f*2^S.sh+j]? =S.ws[f*2^S.sh+j]?):Chs ⟨S.sh,ws,fs⟩ L:=by
 have hnd:=h.nd;simp only[used,List.flatMap_cons]at hnd;have hdis:=(List.nodup_append.1 hnd).2.2;have hmem: ∀f,f∈used (x::L)↔f∈x.c∨f∈used L:=fun f=>by simp[used]
 have hsq:=h.sq;simp only[List.map_cons]at hsq;refine⟨h.sh,by simpa[hfl]using h.n2,by simpa[hfl,hwl]using h.wl,fun y hy=>h.ids y (List.mem_cons_of_mem _ hy),(List.nodup_cons.1 hsq).2,?_,(List.nodup_append.1 hnd).2.1,?_,?_⟩
 ·intro y hy p f hp
  have hfy:f∈used L:=xu.2 ⟨y,hy,p,hp⟩;rw[hf' f (fun hx=>hdis f hx f hfy rfl)];exact h.fr y (List.mem_cons_of_mem _ hy) p f hp
 ·intro f hfl' hn
  by_cases hx:f∈x.c
  ·exact hf f hx
  ·rw[hf' f hx]
   refine h.free f (by simpa[hfl]using hfl') (fun hm=> ?_);rcases(hmem f).1 hm with hm|hm
   ·exact hx hm
   ·exact hn hm
 ·intro f hfl' hn j hj
  by_cases hx:f∈x.c
  ·exact hw f hx j hj
  ·have hfl2:f<S.fs.length:=by simpa[hfl]using hfl'
   show ws[f*2^S.sh+j]? =some 0;rw[hw' f hfl2 hx j hj];refine h.zero f hfl2 (fun hm=> ?_) j hj;rcases(hmem f).1 hm with hm|hm
   ·exact hx hm
   ·exact hn hm
structure St where
 f:Nat
 g:Nat
 l:List Nat
def inS(s:List St)(f g t:Nat):Prop:= ∃x∈s,x.f=f∧x.g=g∧t∈x.l
def Rok(O:List AO)(u:List Bool)(r:List Int):Prop:=u.length=32∧r.length=32∧∀(k:Nat) (b:Bool) (v:Int),u[k]? =some b->r[k]? =some v->(b=false->v=0)∧(b=true-> ∃o∈O,v=(o.f 0:Int)+1)
structure Vh(S:Sp)(B:Nat)(I:List In)(sets:List St)(u:List Bool)(r:List Int):Prop where
 hok:Hok S B I
 rt:Rok (aos B I) u r
 bd: ∀x∈sets,x.f<64∧x.g<64
 ss: ∀x∈sets,∀t∈x.l,∃o∈aos B I,∃e,e<o.r∧t=o.f (1+e)∧x.f=t/B
 cs: ∀i∈I,∀b∈i.obs,∀j∈I,∀b'∈j.obs,∀e,e<b.r->S.w ((zZ B i.x.c b).f (1+e))=((zZ B j.x.c b').f 0:Int)+1->j.x.st<i.x.st->
  inS sets ((zZ B i.x.c b).f (1+e)/B) ((zZ B j.x.c b').f 0/B) ((zZ B i.x.c b).f (1+e))
theorem yS.split: ∀{l1 l2:List Ob} {p e:Nat},yS p (l1++l2) e-> ∃m,yS p l1 m∧yS m l2 e
 | [],l2,p,e,h=>⟨p,rfl,h⟩
 |b::l1,l2,p,e,h=>by
  obtain⟨m,h1,h2⟩:=yS.split h.2;exact⟨m,⟨h.1,h1⟩,h2⟩
def Fc(C:List In)(f:Nat):Prop:= ∃c∈C,f∈c.x.c
def Win(C:List In)(B:Nat)(n:Nat)(v:Int):Prop:= ∃a:Nat,v=(a:Int)+1∧a<n∧Fc C (a/B)
def zev(S:Sp)(B t f g:Nat):Prop:= ∃(a:Nat) (F G:Fr),S.w t=(a:Int)+1∧a<S.ws.length∧t<S.ws.length∧f=t/B∧g=a/B∧S.fs[f]? =some F∧S.fs[g]? =some G∧F.o≠ -1∧G.o≠ -1∧G.s<F.s
section
variable{S0 S1:Sp} {B:Nat} {C R:List In} {T0 T:In} {M:List (AO×AO)} {sc:Nat->Nat->Prop}
theorem Rn.cases_(h:Rn S0 S1 B C R T0 T M sc)(h0:Lay S0 B (T0::(R++C))){i:In}(hi:i∈T::R){b:Ob}(hb:b∈i.obs):
 (∃i0∈T0::R,b∈i0.obs∧zZ B i.x.c b=zZ B i0.x.c b∧i0.x.st=i.x.st∧i0.x.q=i.x.q)∨(i=T∧∃p∈M,zZ B i.x.c b=p.2∧b.o>=T0.wd):=by
 rcases List.mem_cons.1 hi with rfl|hi
 ·obtain⟨nb,h1,h2⟩:=h.obs
  obtain⟨d,hd⟩:=h.chn;have htile:=h.lay.tile i List.mem_cons_self;rw[h1]at htile hb;obtain⟨m,t1,t2⟩:=yS.split htile;have hst:T0.x.st=i.x.st:=by unfold Ch.st;rw[h.q,h.b]
  rcases List.mem_append.1 hb with hb|hb
  ·left
   refine⟨T0,List.mem_cons_self,hb,?_,hst,h.q.symm⟩;rw[hd];exact v7 (by have:=h.lay.B8;omega) (h0.bd List.mem_cons_self hb)
  ·right
   refine⟨rfl,?_⟩;have:zZ B i.x.c b∈M.map (·.2):=by rw[h2];exact List.mem_map.2 ⟨b,hb,rfl⟩
   obtain⟨p,hp,e⟩:=List.mem_map.1 this;refine⟨p,hp,e.symm,?_⟩;have e1:=yS.total t1;have e2:=yS.total (h0.tile T0 List.mem_cons_self);have e3:=yS.mem t2 b hb;omega
 ·exact .inl ⟨i,List.mem_cons_of_mem _ hi,hb,rfl,rfl,rfl⟩
theorem Rn.away(h:Rn S0 S1 B C R T0 T M sc)(h0:Lay S0 B (T0::(R++C))){o:AO}(ho:o∈aos B (T0::R)){k:Nat}(hk:k<o.n):
 (∀o'∈aos B C,∀l,l<o'.n->o.f k≠o'.f l)∧(∀p∈M,∀l,l<p.2.n->o.f k≠p.2.f l)∧¬Fc C (o.f k/B):=by
 obtain⟨i,hi,b,hb,rfl⟩:=zK.1 ho;have hk':k<b.n:=hk
 have hin:i∈T0::(R++C):=by
  rcases List.mem_cons.1 hi with rfl|hi
  ·exact List.mem_cons_self
  ·exact List.mem_cons_of_mem _ (List.mem_append_left _ hi)
 have hqC: ∀c∈C,i.x.q≠c.x.q:=by
  intro c hc he;have hq:=h0.ch.sq;simp only[List.map_cons,List.map_append,List.nodup_cons,List.nodup_append,List.mem_append,List.mem_map,not_or,not_exists,not_and]at hq;rcases List.mem_cons.1 hi with rfl|hi
  ·exact hq.1.2 c.x ⟨c,hc,rfl⟩ he.symm
  ·exact hq.2.2.2 i.x.q ⟨i.x,⟨i,hi,rfl⟩,rfl⟩ c.x.q ⟨c.x,⟨c,hc,rfl⟩,rfl⟩ he
 refine⟨?_,?_,?_⟩
 ·intro o' ho' l hl
  obtain⟨c,hc,b',hb',rfl⟩:=zK.1 ho';exact h0.diff hin (List.mem_cons_of_mem _ (List.mem_append_right _ hc)) (hqC c hc) hb hb' hk' hl
 ·intro p hp l hl he
  obtain⟨nb,h1,h2⟩:=h.obs;have hp2:p.2∈nb.map (zZ B T.x.c):=by rw[<-h2];exact List.mem_map.2 ⟨p,hp,rfl⟩
  obtain⟨b2,hb2,e2⟩:=List.mem_map.1 hp2;have hbT:b2∈T.obs:=by rw[h1];exact List.mem_append_right _ hb2
  rw[<-e2]at he hl;have hl':l<b2.n:=hl;rcases List.mem_cons.1 hi with rfl|hi
  ·obtain⟨d,hd⟩:=h.chn
   have hbT':b∈T.obs:=by rw[h1];exact List.mem_append_left _ hb
   have e3:zZ B i.x.c b=zZ B T.x.c b:=by
    rw[hd];exact(v7 (by have:=h.lay.B8;omega) (h0.bd List.mem_cons_self hb)).symm
   rw[e3,yn hk',yn hl']at he;obtain⟨_,e4⟩:=qx h.lay.ch (by have:=h.lay.B8;omega) (List.mem_cons_self) (List.mem_cons_self) (h.lay.in_ List.mem_cons_self hbT' hk') (h.lay.in_ List.mem_cons_self hbT hl') he;have htile:=h.lay.tile T List.mem_cons_self;rw[h1]at htile;obtain⟨m,t1,t2⟩:=yS.split htile;have a1:=yS.mem t1 b hb;have a2:=yS.mem t2 b2 hb2;omega
  ·exact h.lay.diff (List.mem_cons_of_mem _ (List.mem_append_left _ hi)) List.mem_cons_self (fun e=>h.lay.head_ne (List.mem_append_left _ hi) e.symm) hb hbT hk' hl' he
 ·rintro⟨c,hc,hf⟩
  obtain⟨F,hF,ho,_⟩:=h0.owner hin hb hk';obtain⟨q,hq⟩:=List.mem_iff_getElem?.1 hf;have:=h0.ch.fr c.x (h0.mem (List.mem_cons_of_mem _ (List.mem_append_right _ hc))) q _ hq;rw[this]at hF;injection hF with hF;rw[<-hF]at ho;exact hqC c hc ho.symm
theorem Rn.new_(h:Rn S0 S1 B C R T0 T M sc){p:AO×AO}(hp:p∈M): ∃b∈T.obs,p.2=zZ B T.x.c b:=by
 obtain⟨nb,h1,h2⟩:=h.obs;have hp2:p.2∈nb.map (zZ B T.x.c):=by rw[<-h2];exact List.mem_map.2 ⟨p,hp,rfl⟩
 obtain⟨b2,hb2,e2⟩:=List.mem_map.1 hp2;exact⟨b2,by rw[h1];exact List.mem_append_right _ hb2,e2.symm⟩
theorem Rn.awayN(h:Rn S0 S1 B C R T0 T M sc){p:AO×AO}(hp:p∈M){l:Nat}(hl:l<p.2.n): ¬Fc C (p.2.f l/B):=by
 obtain⟨b,hb,e⟩:=h.new_ hp;rw[e]at hl|-;rintro⟨c,hc,hf⟩;obtain⟨F,hF,ho,_⟩:=h.lay.owner List.mem_cons_self hb hl;obtain⟨q,hq⟩:=List.mem_iff_getElem?.1 hf;have:=h.lay.ch.fr c.x (h.lay.mem (List.mem_cons_of_mem _ (List.mem_append_right _ hc))) q _ hq;rw[this]at hF;injection hF with hF;rw[<-hF]at ho;exact h.lay.head_ne (List.mem_append_right _ hc) ho.symm
theorem zij{S:Sp}{I:List In}(h:Lay S B I)(hC: ∀c∈C,c∈I){o:AO}(ho:o∈aos B C){k:Nat}(hk:k<o.n):Fc C (o.f k/B):=by
 obtain⟨c,hc,b,hb,rfl⟩:=zK.1 ho;have hk':k<b.n:=hk;rw[yn hk'];obtain⟨m,g,r,hg,_,_,_,hd⟩:=za5 (c:=c.x.c) (B:=B) (p:=b.o+k) (by have:=h.B8;omega) (h.in_ (hC c hc) hb hk');exact⟨c,hc,by rw[hd];exact List.mem_of_getElem? hg⟩
theorem zor{sets sets2:List St}{u:List Bool}{r r2:List Int}{sl:List Nat}{S2 S3:Sp}(h:Vh S0 B (T0::(R++C)) sets u r)(hR:Rn S0 S1 B C R T0 T M sc)(hsc: ∀i e,i<M.length->sc i e)
 (pre: ∀i∈T0::R,i.obs≠ [] -> ∀c∈C,c.x.st<i.x.st)
 (hsl: ∀t,t∈sl↔(∃x∈sets,Fc C x.g∧¬Fc C x.f∧t∈x.l)∧Win C B S0.ws.length (S0.w t))
 (h2n: ∀t,t∉sl->S2.w t=S1.w t) (h2y: ∀t,t∈sl->Fwd (aos B C) M (S0.w t) (S2.w t)) (h2f:S2.fs=S1.fs) (h2l:S2.ws.length=S1.ws.length)
 (hr2l:r2.length=32) (hr2: ∀(k:Nat) (v v2:Int),r[k]? =some v->r2[k]? =some v2->Fwd (aos B C) M v v2∨(u[k]? =some false∧v2=v))
 (hb2: ∀x∈sets2,x.f<64∧x.g<64) (hs2: ∀f g t,inS sets2 f g t↔(inS sets f g t∧¬Fc C f∧¬Fc C g)∨((t∈sl∨∃p∈M,∃e,e<p.1.r∧t=p.2.f (1+e))∧zev S2 B t f g))
 (h3:Chs S3 ((T::R).map (·.x))) (h3sh:S3.sh=S2.sh) (h2sh:S2.sh=S1.sh) (h3w: ∀t,¬Fc C (t/B) ->S3.w t=S2.w t):Vh S3 B (T::R) sets2 u r2:=by
 have h0:=h.hok.lay;have hB0:0<B:=by have:=h0.B8;omega
 have hlay3:Lay S3 B (T::R):=by
  refine⟨by rw[h3sh,h2sh,hR.ln.2.2];exact h0.pow,h3,?_,?_⟩
  ·intro i hi
   rcases List.mem_cons.1 hi with rfl|hi
   ·exact hR.lay.fit _ List.mem_cons_self
   ·exact hR.lay.fit i (List.mem_cons_of_mem _ (List.mem_append_left _ hi))
  ·intro i hi
   rcases List.mem_cons.1 hi with rfl|hi
   ·exact hR.lay.tile _ List.mem_cons_self
   ·exact hR.lay.tile i (List.mem_cons_of_mem _ (List.mem_append_left _ hi))
 have sub0: ∀o∈aos B (T0::R),o∈aos B (T0::(R++C)):=fun o ho=>qK (fun i hi=>by
  rcases List.mem_cons.1 hi with rfl|hi
  ·exact List.mem_cons_self
  ·exact List.mem_cons_of_mem _ (List.mem_append_left _ hi)) ho
 have subC: ∀o∈aos B C,o∈aos B (T0::(R++C)):=fun o ho=>qK (fun i hi=>List.mem_cons_of_mem _ (List.mem_append_right _ hi)) ho
 have part0: ∀o∈aos B (T0::(R++C)),o∈aos B (T0::R)∨o∈aos B C:=by
  intro o ho;obtain⟨i,hi,b,hb,e⟩:=zK.1 ho;rcases List.mem_cons.1 hi with rfl|hi
  ·exact .inl (zK.2 ⟨_,List.mem_cons_self,b,hb,e⟩)
  ·rcases List.mem_append.1 hi with hi|hi
   ·exact .inl (zK.2 ⟨i,List.mem_cons_of_mem _ hi,b,hb,e⟩)
   ·exact .inr (zK.2 ⟨i,hi,b,hb,e⟩)
 have new3: ∀p∈M,p.2∈aos B (T::R):=fun p hp=>by
  obtain⟨b,hb,e⟩:=hR.new_ hp;exact zK.2 ⟨T,List.mem_cons_self,b,hb,e.symm⟩
 have old3: ∀o∈aos B (T0::R),o∈aos B (T::R):=by
  intro o ho;obtain⟨i,hi,b,hb,e⟩:=zK.1 ho;rcases List.mem_cons.1 hi with rfl|hi
  ·obtain⟨nb,h1,_⟩:=hR.obs
   obtain⟨d,hd⟩:=hR.chn;refine zK.2 ⟨T,List.mem_cons_self,b,by rw[h1];exact List.mem_append_left _ hb,?_⟩;rw[hd,v7 hB0 (h0.bd List.mem_cons_self hb)];exact e
  ·exact zK.2 ⟨i,List.mem_cons_of_mem _ hi,b,hb,e⟩
 have part3: ∀o∈aos B (T::R),o∈aos B (T0::R)∨∃p∈M,o=p.2:=by
  intro o ho;obtain⟨i,hi,b,hb,rfl⟩:=zK.1 ho;rcases hR.cases_ h0 hi hb with⟨i0,hi0,hb0,e,_⟩|⟨_,p,hp,e,_⟩
  ·exact .inl (zK.2 ⟨i0,hi0,b,hb0,e.symm⟩)
  ·exact .inr ⟨p,hp,e⟩
 have pn: ∀p∈M,p.1∈aos B C∧p.2.r=p.1.r∧p.2.d=p.1.d∧p.2.n=p.1.n:=fun p hp=>by
  obtain⟨a,b,c,_⟩:=hR.cy.old p hp;exact⟨a,b,c,by unfold AO.n;omega⟩
 have slot: ∀t∈sl,∃o∈aos B (T0::R),∃e,e<o.r∧t=o.f (1+e):=by
  intro t ht;obtain⟨⟨x,hx,_,hxf,hxt⟩,_⟩:=(hsl t).1 ht;obtain⟨o,ho,e,he,ht',hf⟩:=h.ss x hx t hxt;rcases part0 o ho with ho|ho
  ·exact⟨o,ho,e,he,ht'⟩
  ·have:=zij h0 (fun c hc=>List.mem_cons_of_mem _ (List.mem_append_right _ hc)) ho (k:=1+e) (by unfold AO.n;omega)
   rw[<-ht',<-hf]at this;exact absurd this hxf
 have wold: ∀o∈aos B (T0::R),∀k,k<o.n->S3.w (o.f k)=S2.w (o.f k)∧(o.f k∉sl->S3.w (o.f k)=S0.w (o.f k)):=by
  intro o ho k hk;obtain⟨a1,a2,a3⟩:=hR.away h0 ho hk;have e1:=h3w _ a3;refine⟨e1,fun hn=> ?_⟩;rw[e1,h2n _ hn];exact hR.cy.rest _ a1 a2
 have wnew: ∀p∈M,∀k,k<p.2.n->p.2.f k∉sl∧S3.w (p.2.f k)=S1.w (p.2.f k)∧S3.w (p.2.f k)=S2.w (p.2.f k):=by
  intro p hp k hk
  have hn:p.2.f k∉sl:=fun hm=>by
   obtain⟨o,ho,e,he,ht⟩:=slot _ hm;exact(hR.away h0 ho (k:=1+e) (by unfold AO.n;omega)).2.1 p hp k hk ht.symm
  have e1:=h3w _ (hR.awayN hp hk);exact⟨hn,by rw[e1,h2n _ hn],e1⟩
 have whead: ∀o∈aos B (T0::R),o.f 0∉sl:=by
  intro o ho hm;obtain⟨o',ho',e,he,ht⟩:=slot _ hm;obtain⟨_,h2⟩:=h0.apart o (sub0 o ho) o' (sub0 o' ho') 0 (1+e) (by unfold AO.n;omega) (by unfold AO.n;omega) ht;omega
 have fptr: ∀v v',Ptr (aos B (T0::(R++C))) v->Fwd (aos B C) M v v'->Ptr (aos B (T::R)) v':=by
  rintro v v' hv (⟨rfl,hno⟩|⟨p,hp,_,rfl⟩)
  ·rcases hv with rfl|⟨o,ho,rfl⟩
   ·exact .inl rfl
   ·rcases part0 o ho with ho|ho
    ·exact .inr ⟨o,old3 o ho,rfl⟩
    ·exact absurd rfl (hno o ho)
  ·exact .inr ⟨p.2,new3 p hp,rfl⟩
 have insl: ∀i∈T0::R,∀b∈i.obs,∀e,e<b.r-> ∀o'∈aos B C,S0.w ((zZ B i.x.c b).f (1+e))=(o'.f 0:Int)+1->(zZ B i.x.c b).f (1+e)∈sl:=by
  intro i hi b hb e he o' ho' hv;obtain⟨c,hc,b',hb',rfl⟩:=zK.1 ho'
  have hi':i∈T0::(R++C):=by
   rcases List.mem_cons.1 hi with rfl|hi
   ·exact List.mem_cons_self
   ·exact List.mem_cons_of_mem _ (List.mem_append_left _ hi)
  have hc':c∈T0::(R++C):=List.mem_cons_of_mem _ (List.mem_append_right _ hc);obtain⟨x,hx,hxf,hxg,hxt⟩:=h.cs i hi' b hb c hc' b' hb' e he hv (pre i hi (fun hnil=>by rw[hnil]at hb;cases hb) c hc);have ho:zZ B i.x.c b∈aos B (T0::R):=zK.2 ⟨i,hi,b,hb,rfl⟩;have hk:1+e<(zZ B i.x.c b).n:=by show 1+e<b.n;unfold Ob.n;omega
  have hg:=zij h0 (fun c hc=>List.mem_cons_of_mem _ (List.mem_append_right _ hc)) ho' (k:=0) (by unfold AO.n;omega);refine(hsl _).2 ⟨⟨x,hx,by rw[hxg];exact hg,by rw[hxf];exact(hR.away h0 ho hk).2.2,hxt⟩,_,hv,?_,hg⟩;obtain⟨F,hF,_,_,_,hlt⟩:=h0.owner hc' hb' (k:=0) (by unfold Ob.n;omega);exact hlt
 have newref: ∀p∈M,∀e,e<p.1.r->Fwd (aos B C) M (S0.w (p.1.f (1+e))) (S1.w (p.2.f (1+e))):=by
  intro p hp e he;obtain⟨i,hi⟩:=List.mem_iff_getElem?.1 hp;exact(hR.cy.newr i p hi e he).1 (hsc i e (List.getElem?_eq_some_iff.1 hi).1)
 refine⟨⟨hlay3,?_,?_⟩,?_,hb2,?_,?_⟩
 ·intro o ho
  rcases part3 o ho with ho|⟨p,hp,rfl⟩
  ·obtain⟨h1,h2,h3'⟩:=h.hok.head o (sub0 o ho)
   exact⟨h1,h2,by rw[(wold o ho 0 (by unfold AO.n;omega)).2 (whead o ho)];exact h3'⟩
  ·obtain⟨a,b,c,d⟩:=pn p hp
   obtain⟨h1,h2,h3'⟩:=h.hok.head p.1 (subC _ a);exact⟨by omega,by omega,by rw[(wnew p hp 0 (by unfold AO.n;omega)).2.1,hR.cy.newh p hp,h3',b,c]⟩
 ·intro o ho e he
  rcases part3 o ho with ho|⟨p,hp,rfl⟩
  ·have hk:1+e<o.n:=by unfold AO.n;omega
   have hp0:=h.hok.refs o (sub0 o ho) e he;by_cases hm:o.f (1+e)∈sl
   ·rw[(wold o ho _ hk).1]
    exact fptr _ _ hp0 (h2y _ hm)
   ·rw[(wold o ho _ hk).2 hm]
    rcases hp0 with hp0|⟨o',ho',hv⟩
    ·exact .inl hp0
    ·rcases part0 o' ho' with ho'|ho'
     ·exact .inr ⟨o',old3 o' ho',hv⟩
     ·obtain⟨i,hi,b,hb,rfl⟩:=zK.1 ho
      exact absurd (insl i hi b hb e he o' ho' hv) hm
  ·obtain⟨a,b,c,d⟩:=pn p hp
   have he':e<p.1.r:=by omega
   rw[(wnew p hp _ (by unfold AO.n;omega)).2.1];exact fptr _ _ (h.hok.refs p.1 (subC _ a) e he') (newref p hp e he')
 ·obtain⟨hu,hr,hk⟩:=h.rt
  refine⟨hu,hr2l,fun k b v2 hb hv2=> ?_⟩;have hkl:=(List.getElem?_eq_some_iff.1 hv2).1;obtain⟨v,hv⟩: ∃v,r[k]? =some v:=⟨_,List.getElem?_eq_getElem (by omega)⟩;obtain⟨k1,k2⟩:=hk k b v hb hv;rcases hr2 k v v2 hv hv2 with hf|⟨hf,rfl⟩
  ·refine⟨fun hbf=> ?_,fun hbt=> ?_⟩
   ·have:=k1 hbf
    subst this;rcases hf with⟨rfl,_⟩|⟨p,_,hp,_⟩
    ·rfl
    ·omega
   ·obtain⟨o,ho,hv'⟩:=k2 hbt
    rcases fptr _ _ (.inr ⟨o,ho,hv'⟩) hf with hz|hz
    ·rcases hf with⟨e,_⟩|⟨p,_,_,e⟩<;>omega
    ·exact hz
  ·rw[hb]at hf
   injection hf with hf;exact⟨k1,fun hbt=>by rw[hf]at hbt;cases hbt⟩
 ·intro x hx t ht
  rcases(hs2 x.f x.g t).1 ⟨x,hx,rfl,rfl,ht⟩with⟨⟨x',hx',hf',hg',ht'⟩,hnf,_⟩|⟨hor,a,F,G,_,_,_,hf,_⟩
  ·obtain⟨o,ho,e,he,hte,hfe⟩:=h.ss x' hx' t ht'
   rcases part0 o ho with ho|ho
   ·exact⟨o,old3 o ho,e,he,hte,by rw[<-hf'];exact hfe⟩
   ·have:=zij h0 (fun c hc=>List.mem_cons_of_mem _ (List.mem_append_right _ hc)) ho (k:=1+e) (by unfold AO.n;omega)
    rw[<-hte,<-hfe,hf']at this;exact absurd this hnf
  ·rcases hor with hm|⟨p,hp,e,he,rfl⟩
   ·obtain⟨o,ho,e,he,hte⟩:=slot t hm
    exact⟨o,old3 o ho,e,he,hte,hf⟩
   ·obtain⟨_,b,_,_⟩:=pn p hp
    exact⟨p.2,new3 p hp,e,by omega,rfl,hf⟩
 ·intro i hi b hb j hj b' hb' e he hv hst
  have hk:1+e<b.n:=by unfold Ob.n;omega
  have mem1: ∀x,x∈T::R->x∈T::(R++C):=fun x hx=>by
   rcases List.mem_cons.1 hx with rfl|hx
   ·exact List.mem_cons_self
   ·exact List.mem_cons_of_mem _ (List.mem_append_left _ hx)
  have hpair:S3.w ((zZ B i.x.c b).f (1+e))=S2.w ((zZ B i.x.c b).f (1+e)) ->zev S2 B ((zZ B i.x.c b).f (1+e)) ((zZ B i.x.c b).f (1+e)/B) ((zZ B j.x.c b').f 0/B):=by
   intro e32;obtain⟨F,hF,hFo,hFs,_,hFl⟩:=hR.lay.owner (mem1 i hi) hb hk;obtain⟨G,hG,hGo,hGs,_,hGl⟩:=hR.lay.owner (mem1 j hj) hb' (k:=0) (by unfold Ob.n;omega);have i1:=(hR.lay.ch.ids i.x (hR.lay.mem (mem1 i hi))).1;have i2:=(hR.lay.ch.ids j.x (hR.lay.mem (mem1 j hj))).1;exact⟨_,F,G,by rw[<-e32];exact hv,by rw[h2l];exact hGl,by rw[h2l];exact hFl,rfl,rfl,by rw[h2f];exact hF,by rw[h2f];exact hG,by omega,by omega,by omega⟩
  rcases hR.cases_ h0 hi hb with⟨i0,hi0,hb0,e0,hst0,_⟩|⟨_,p,hp,e0,_⟩
  ·have ho:zZ B i.x.c b∈aos B (T0::R):=zK.2 ⟨i0,hi0,b,hb0,e0.symm⟩
   obtain⟨w1,w2⟩:=wold _ ho (1+e) hk;by_cases hm:(zZ B i.x.c b).f (1+e)∈sl
   ·exact(hs2 _ _ _).2 (.inr ⟨.inl hm,hpair w1⟩)
   ·rw[w2 hm]at hv
    rcases hR.cases_ h0 hj hb' with⟨j0,hj0,hbj0,ej,hstj,_⟩|⟨_,p,hp,ej,_⟩
    ·have hij: ∀x,x∈T0::R->x∈T0::(R++C):=fun x hx=>by
      rcases List.mem_cons.1 hx with rfl|hx
      ·exact List.mem_cons_self
      ·exact List.mem_cons_of_mem _ (List.mem_append_left _ hx)
     have hoj:zZ B j.x.c b'∈aos B (T0::R):=zK.2 ⟨j0,hj0,b',hbj0,ej.symm⟩;have:=h.cs i0 (hij _ hi0) b hb0 j0 (hij _ hj0) b' hbj0 e he (by rw[<-e0,<-ej];exact hv) (by omega);rw[<-e0,<-ej]at this;exact(hs2 _ _ _).2 (.inl ⟨this,(hR.away h0 ho hk).2.2,(hR.away h0 hoj (k:=0) (by unfold AO.n;omega)).2.2⟩)
    ·exfalso
     rcases h.hok.refs _ (sub0 _ ho) e he with hz|⟨o',ho',hz⟩
     ·rw[hz]at hv
      omega
     ·rw[hz,ej]at hv
      have hv':o'.f 0=p.2.f 0:=by omega
      rcases part0 o' ho' with ho'|ho'
      ·exact(hR.away h0 ho' (k:=0) (by unfold AO.n;omega)).2.1 p hp 0 (by unfold AO.n;omega) hv'
      ·exact hR.cy.fresh p hp 0 (by unfold AO.n;omega) o' ho' 0 (by unfold AO.n;omega) hv'.symm
  ·obtain⟨_,pb,_,_⟩:=pn p hp
   have he2:e<p.1.r:=by
    have:p.2.r=b.r:=by rw[<-e0];rfl
    omega
   have w3:=(wnew p hp (1+e) (by rw[<-e0];exact hk)).2.2;rw[<-e0]at w3;exact(hs2 _ _ _).2 (.inr ⟨.inr ⟨p,hp,e,he2,by rw[e0]⟩,hpair w3⟩)
end
theorem But.fresh{S:List Nat}{a w:World}(h:But S a w){p:Addr}(hp:a.heap.size<=p.block)(u:Value):But S a (w.setCell p u):=
 ⟨h.os,h.tape,h.output,by simpa[World.setCell]using h.size,fun k hk hn=>by
   rw[RowKit.Below.heap_setCell _ _ _ _ (fun e=>by omega)];exact h.block k hk hn⟩
theorem zik(A Bf:Option Addr)(a b:Nat)(S:Sp)(L:List Ch)(x:Ch)(z:Int)(g B k:Nat)(w:World)(h:SRd w S A Bf)(hS:Chs S L)(hx:x∈L)(hB:2^S.sh=B)(hg:x.c[0]? =some g)(hz:z=(g:Int)*(B:Int))(hp:k<x.c.length*B):
 Calls Tryz.prog 65 #[spV S A a Bf b,.int .i64 z,.int .i64 k] w (vk w (zy x.c B k)):=by
 have hb1:=(yG hS.sh).1;rw[hB]at hb1;have h0:zy x.c B 0=g*B:=by rw[j5 hg (show 0<B by omega) (show 0*B+0=0 by omega)];omega
 have e:z=((zy x.c B 0:Nat):Int):=by rw[h0,hz,Int.natCast_mul]
 subst e;have:=zlj A Bf a b S L x B 0 k w h hS hx hB (by omega);rwa[Nat.zero_add]at this
def zqq(w:World)(r:Ending)(w':World):Prop:=r= .returned (.tuple #[.agg #[.int .i64 0,.int .i64 0,.int .i64 0,.int .i64 0,.int .i64 0],.int .i64 0,.int .i64 4])∧Ext w w'
def zry(w:World)(base gW cW gF cF:Nat)(S:Sp)(L:List Ch)(x:Ch)(wd n B:Nat)(r:Ending)(w':World):Prop:=
 ∃(fs:List Fr) (c:List Nat),r= .returned (.tuple #[.agg #[.int .i64 x.q,.int .i64 x.b,.int .i64 (yz c 0),.int .i64 (yp c),.int .i64 ((wd+n:Nat):Int)],.int .i64 (zy c B wd:Nat),.int .i64 0])∧fs.length=S.fs.length∧yJ (wd+n) B=c.length∧(∃d,c=x.c++d)∧Chs ⟨S.sh,S.ws,fs⟩ (⟨x.q,x.b,c⟩::L)∧SOw w' base ⟨S.sh,S.ws,fs⟩ gW cW gF cF∧But [gF] w w'
def zos(w:World)(base gW cW gF cF:Nat)(S:Sp)(L:List Ch)(x:Ch)(wd n B:Nat)(r:Ending)(w':World):Prop:=zqq w r w'∨zry w base gW cW gF cF S L x wd n B r w'
theorem SOw.far{w:World}{base gW cW gF cF:Nat}{S:Sp}(h:SOw w base S gW cW gF cF){p:Addr}(h1:gW≠p.block)(h2:gF≠p.block)(u:Value):SOw (w.setCell p u) base S gW cW gF cF:=⟨yf h.W h1 u,yf h.F h2 u⟩
theorem zlq{w:World}{base gW cW gF cF:Nat}{S:Sp}{L:List Ch}{x:Ch}{i g:Nat}{F:Fr}(hS:Chs S (x::L))(hF:S.fs[i]? =some F)(ho:F.o= -1)(hg:x.c[x.c.length-1]? =some g)(h:SOw w base (S.setF i ⟨x.q,x.st,-1⟩) gW cW gF cF):
 SOw (w.setCell ⟨gF,g*3+2,none⟩ (.int .i64 (i:Int))) base {S with fs:=v6 S.fs x.c i x.q x.st} gW cW gF cF:=by
 have h1:=yv h.F (g*3+2) (.int .i64 (i:Int));have h2:=yf h.W (p:=⟨gF,g*3+2,none⟩) h.ne (.int .i64 (i:Int));simp only[Sp.setF,List.length_set]at h1 h2;rw[zlo hS hF ho hg]at h1;refine⟨h2,?_⟩;simpa only[qh]using h1
theorem zjr{x:Ch}{L:List Ch}:(used (x::L)).length=x.c.length+(used L).length:=by simp[used]
theorem zlr(gW cW gF cF base:Nat)(S:Sp)(L:List Ch)(x:Ch)(wd n B:Nat)(w:World)(h:SOw w base S gW cW gF cF)(hS:Chs S (x::L))(hB:2^S.sh=B)(hwd:yJ wd B=x.c.length)(h1:1<=n)(h2:n<=48)(hbase:base<=w.heap.size):
 Calls Tryz.prog 76 #[spV S (some ⟨gW,0,none⟩) cW (some ⟨gF,0,none⟩) cF,zeq x wd,.int .i64 n] w (zos w base gW cW gF cF S L x wd n B):=by
 have hsh:=hS.sh;have hb1:=(yG hS.sh).1;have hb2:=(yG hS.sh).2;rw[hB]at hb1 hb2;obtain⟨hn1,hn2⟩:=hS.n2;obtain⟨hx1,hx2,hx3,hx4⟩:=hS.ids x List.mem_cons_self;have hlc:=hS.len_ch List.mem_cons_self;have hw1:=xL (n:=64) (B:=B) (wd:=wd) (by omega) (by omega);have hfB:64*B<=64*256:=Nat.mul_le_mul (by omega) hb2;have hwb:wd<=100000:=by omega
 have hnb:n<=1000:=by omega
 have hmono:yJ wd B<=yJ (wd+n) B:=Nat.div_le_div_right (by omega);have hfr:=hS.frees;have hcl:=zbi (wd+n) B (by omega);obtain⟨K,hK⟩: ∃K,yJ (wd+n) B=yJ wd B+K:=⟨_,(Nat.add_sub_cancel' hmono).symm⟩;have hKI:((yJ (wd+n) B:Nat):Int) -(yJ wd B:Nat)=(K:Int):=by omega
 have HK:=Lib.hid hK;have Hwd:=Lib.hid hwd;have HS:=Lib.hid hS;have Hfr:=Lib.hid hfr;have hfl:=zdu S.fs S.fs.length;have hlt:=h.lt;clear hK hwd hS hfr hmono;unfold spV zeq;go_enter Tryz.func76,Tryz.ntmps76;go_upto_region 1 with fail;have kS:Blk (((w.alloc (.cells #[.int .i64 S.sh,.slice (some ⟨gW,0,none⟩) S.ws.length cW,.slice (some ⟨gF,0,none⟩) S.fs.length cF] 29)).alloc (.cells #[.int .i64 x.q,.int .i64 x.b,.int .i64 (yz x.c 0),.int .i64 (yp x.c),.int .i64 wd] 144)).alloc (.cells #[.int .i64 0,.int .i64 0,.int .i64 0,.int .i64 0,.int .i64 0] 144)) w.heap.size 29 #[.int .i64 S.sh,.slice (some ⟨gW,0,none⟩) S.ws.length cW,.slice (some ⟨gF,0,none⟩) S.fs.length cF]:=Blk.alloc (Blk.alloc (Blk.new rfl) _) _;have kI:Blk (((w.alloc (.cells #[.int .i64 S.sh,.slice (some ⟨gW,0,none⟩) S.ws.length cW,.slice (some ⟨gF,0,none⟩) S.fs.length cF] 29)).alloc (.cells #[.int .i64 x.q,.int .i64 x.b,.int .i64 (yz x.c 0),.int .i64 (yp x.c),.int .i64 wd] 144)).alloc (.cells #[.int .i64 0,.int .i64 0,.int .i64 0,.int .i64 0,.int .i64 0] 144)) (w.heap.size+1) 144 #[.int .i64 x.q,.int .i64 x.b,.int .i64 (yz x.c 0),.int .i64 (yp x.c),.int .i64 wd]:=Blk.alloc (Blk.new (by simp)) _;have kR:Blk (((w.alloc (.cells #[.int .i64 S.sh,.slice (some ⟨gW,0,none⟩) S.ws.length cW,.slice (some ⟨gF,0,none⟩) S.fs.length cF] 29)).alloc (.cells #[.int .i64 x.q,.int .i64 x.b,.int .i64 (yz x.c 0),.int .i64 (yp x.c),.int .i64 wd] 144)).alloc (.cells #[.int .i64 0,.int .i64 0,.int .i64 0,.int .i64 0,.int .i64 0] 144)) (w.heap.size+1+1) 144 #[.int .i64 0,.int .i64 0,.int .i64 0,.int .i64 0,.int .i64 0]:=Blk.new (by simp);have hEW:Ext w (((w.alloc (.cells #[.int .i64 S.sh,.slice (some ⟨gW,0,none⟩) S.ws.length cW,.slice (some ⟨gF,0,none⟩) S.fs.length cF] 29)).alloc (.cells #[.int .i64 x.q,.int .i64 x.b,.int .i64 (yz x.c 0),.int .i64 (yp x.c),.int .i64 wd] 144)).alloc (.cells #[.int .i64 0,.int .i64 0,.int .i64 0,.int .i64 0,.int .i64 0] 144)):=by exact jX
 generalize((w.alloc (.cells #[.int .i64 S.sh,.slice (some ⟨gW,0,none⟩) S.ws.length cW,.slice (some ⟨gF,0,none⟩) S.fs.length cF] 29)).alloc (.cells #[.int .i64 x.q,.int .i64 x.b,.int .i64 (yz x.c 0),.int .i64 (yp x.c),.int .i64 wd] 144)).alloc (.cells #[.int .i64 0,.int .i64 0,.int .i64 0,.int .i64 0,.int .i64 0] 144)=W at kS kI kR hEW|-;obtain⟨b0,hb0⟩: ∃b0,w.heap.size=b0:=⟨_,rfl⟩;rw[hb0]at kS kI kR|-;have Hb0:=Lib.hid hb0;clear hb0;have cS:=kS.cell;have lS:=kS.lt;have cI:=kI.cell;have lI:=kI.lt;by_cases hroom:K<=(frK S.fs S.fs.length).length
 ·have d1:decide (((frK S.fs S.fs.length).length:Int)<K)=false:=by(first|omega|(simp;done)|(simp;omega))
  have d1':decide ((frK S.fs S.fs.length).length<K)=false:=by(first|omega|(simp;done)|(simp;omega))
  go_upto_region 4 with(first|(go_at_call 91;refine(zad _ _ cW cF S x wd n B _ hsh hB hwb hnb).mono ?_;rintro e w1 ⟨rfl,hE1⟩;have kS1:=kS.ext hE1;have kI1:=kI.ext hE1;have kR1:=kR.ext hE1;have cS1:=kS1.cell;have lS1:=kS1.lt;have cI1:=kI1.cell;have lI1:=kI1.lt)|(go_at_call 92;refine(qT _ _ cW cF S _ ((h.ext (hEW.trans hE1)).rd) hn2).mono ?_;rintro e w1 ⟨D,d,rfl,hD,hE2⟩;have kS2:=kS1.ext hE2;have kI2:=kI1.ext hE2;have kR2:=kR1.ext hE2;have cS2:=kS2.cell;have lS2:=kS2.lt;have cI2:=kI2.cell;have lI2:=kI2.lt;have cR2:=kR2.cell;have fR2:=kR2.froz;have lR2:=kR2.lt));clear cS lS cI lI kS kI kR kS1 kI1 kR1 cS1 lS1 cI1 lI1 hD d1 d1';have hE0:=(hEW.trans hE1).trans hE2;go_wp2_with fail;clear cS2 lS2 cI2 lI2
  go_loopw [9] (fun s wr=> ∃(j:Nat) (fs:List Fr) (c:List Nat),j<=K∧s= .int .i64 j∧fs.length=S.fs.length∧c.length+j=x.c.length+K∧(∃d,c=x.c++d)∧Chs ⟨S.sh,S.ws,fs⟩ (⟨x.q,x.b,c⟩::L)∧SOw wr base ⟨S.sh,S.ws,fs⟩ gW cW gF cF∧But [gF] w wr∧
   Blk wr b0 29 #[.int .i64 S.sh,.slice (some ⟨gW,0,none⟩) S.ws.length cW,.slice (some ⟨gF,0,none⟩) S.fs.length cF]∧Blk wr (b0+1) 144 #[.int .i64 x.q,.int .i64 x.b,.int .i64 (yz c 0),.int .i64 (yp c),.int .i64 wd]∧
   Blk wr (b0+1+1) 144 #[.int .i64 0,.int .i64 0,.int .i64 0,.int .i64 0,.int .i64 0]) (fun s _=>(intOf s).toNat)
  case atStart=>exact⟨K,S.fs,x.c,by omega,rfl,rfl,rfl,⟨[],by simp⟩,HS.out,h.ext hE0,hE0.but _,kS2,kI2,kR2⟩
  case round=>
   clear kS2 kI2 kR2 cR2 fR2 lR2 hE0 hE1 hE2 hEW;obtain⟨j,fs,c,hj0,rfl,hfl2,hcl2,hpre,hC,hO,hBw,kS,kI,kR⟩:=hrel;have hC2:=Lib.hid hC;have Hpre:=Lib.hid hpre;have hb0:=Hb0.out;have hn0:b0∉ [gF]:=by simp;omega
   have hn1':b0+1∉ [gF]:=by simp;omega
   have hn2':b0+1+1∉ [gF]:=by simp;omega
   have hfs64:fs.length<=64:=by omega
   have hszw:=hBw.size;have hfa:fs.length<=S.fs.length:=by omega
   have hfb:S.fs.length<=fs.length:=by omega
   have Hfl2:=Lib.hid hfl2;have Hcl2:=Lib.hid hcl2;have hjc:c.length+j<=x.c.length+K:=by omega
   have hjc2:x.c.length+K<=c.length+j:=by omega
   rw[<-hfl2]at kS;clear hb0 hC hpre hfl2 hcl2;by_cases hj:0<j
   ·have dj:decide ((0:Int)<j)=true:=by simp;omega
    have dj':decide (0<j)=true:=by simp;omega
    have hfr:=hC2.out.frees;have hfr2:=Hfr.out;rw[zjr]at hfr hfr2;simp only at hfr;obtain⟨i,hi,hjm⟩:=zgw (fs:=fs) (by omega);obtain⟨F,hF,ho⟩:=hi;have hil:=(List.getElem?_eq_some_iff.1 hF).1;have Hi:=Lib.hid (show∃F,(⟨S.sh,S.ws,fs⟩:Sp).fs[i]? =some F∧F.o= -1 from⟨F,hF,ho⟩);have Hj:=Lib.hid (show∀j F,j<i->(⟨S.sh,S.ws,fs⟩:Sp).fs[j]? =some F->F.o≠ -1 from hjm);have cS:=kS.cell;have lS:=kS.lt;have cI:=kI.cell;have lI:=kI.lt;have Hpush:=Lib.hid (Chs.push hC2.out hF ho);clear hfr hfr2 hjm;by_cases hc:c= []
    ·subst hc
     have HF:=Lib.hid hF;have Ho:=Lib.hid ho;clear hF ho;have kI':Blk wr (b0+1) 144 #[.int .i64 x.q,.int .i64 x.b,.int .i64 (-1),.int .i64 (-1),.int .i64 wd]:=kI;clear kI;have kI:=kI';have cI:=kI.cell;clear kI';go_wp2_with(first|(go_at_call 93;refine(zep gW cW gF cF base ⟨S.sh,S.ws,fs⟩ x.q x.b i _ hO hfs64 Hi.out Hj.out hx1 hx2 hx3 hx4).mono ?_;rintro e w1 ⟨rfl,hO1,hB1⟩;have kS1:=kS.but hB1 hn0;have kI1:=kI.but hB1 hn1';have kR1:=kR.but hB1 hn2';have cS1:=kS1.cell;have lS1:=kS1.lt;have cI1:=kI1.cell;have fI1:=kI1.froz;have lI1:=kI1.lt));go_roundw
     case rel=>
      have hb0:=Hb0.out;refine⟨j-1,v6 fs [] i x.q (x.b*4294967296+x.q),[]++ [i],by omega,by rw[show((j-1:Nat):Int)=(j:Int) -1 by omega],(qh _ _ _ _ _).trans Hfl2.out,by have:=Hcl2.out;simp at this|-;omega,?_,Hpush.out,?_,?_,?_,?_,?_⟩
      ·obtain⟨d,hd⟩:=Hpre.out
       exact⟨d++ [i],by rw[<-List.append_assoc,<-hd]⟩
      ·refine SOw.far (SOw.far ?_ (by simp;omega) (by simp;omega) _) (by simp;omega) (by simp;omega) _
       exact hO1
      ·exact But.fresh (But.fresh (hBw.trans hB1) (by simp;omega) _) (by simp;omega) _
      ·rw[<-Hfl2.out]
       exact(kS1.far (by simp) _).far (by simp) _
      ·exact(kI1.set_ 2 _).set_ 3 _
      ·exact(kR1.far (by simp) _).far (by simp) _
     case measure=>simp[intOf];omega
    ·have hl:0<c.length:=List.length_pos_iff.2 hc
     have hg:c[c.length-1]? =some c[c.length-1]:=List.getElem?_eq_getElem (by omega);generalize c[c.length-1]'(by omega)=g at hg;have hgn:=hC2.out.fr _ List.mem_cons_self _ g hg;have hgl:=(List.getElem?_eq_some_iff.1 hgn).1;have hgi:g≠i:=fun e=>(hC2.out.notin hF ho) (by subst e;exact xu.2 ⟨_,List.mem_cons_self,_,hg⟩)
     simp only at hgl
     have Hgl:=Lib.hid (show(Sp.setF ⟨S.sh,S.ws,fs⟩ i ⟨x.q,x.b*4294967296+x.q,-1⟩).fs[g]? =some ⟨x.q,Ch.st ⟨x.q,x.b,c⟩,yz c (c.length-1+1)⟩ by
      simp only[Sp.setF];rw[List.getElem?_set,if_neg (fun e=>hgi e.symm)];exact hgn)
     have hgI:(g:Int)<fs.length:=by omega
     have hp0:yz c 0=((c[0]'hl:Nat):Int):=qO (List.getElem?_eq_getElem hl);generalize c[0]'hl=g00 at hp0;have hpl:yp c=(g:Int):=qO hg;rw[hp0,hpl]at kI;have cI:=kI.cell;have hne:((g00:Int)== -1)=false:=by simp
     have HF:=Lib.hid hF;have Ho:=Lib.hid ho;have Hg:=Lib.hid hg;have Hp0:=Lib.hid hp0;clear hF ho hg hgn hp0 hpl hgi hc;go_wp2_with(first|(go_at_call 93;refine(zep gW cW gF cF base ⟨S.sh,S.ws,fs⟩ x.q x.b i _ hO hfs64 Hi.out Hj.out hx1 hx2 hx3 hx4).mono ?_;rintro e w1 ⟨rfl,hO1,hB1⟩;have kS1:=kS.but hB1 hn0;have kI1:=kI.but hB1 hn1';have kR1:=kR.but hB1 hn2';have cS1:=kS1.cell;have lS1:=kS1.lt;have cI1:=kI1.cell;have fI1:=kI1.froz;have lI1:=kI1.lt;have fF1:=(zz hO1.F).2;obtain⟨bG,oG,he,g0,g1,g2⟩:=jl hO1.rd.F Hgl.out;simp only[Option.some.injEq,Addr.mk.injEq,and_true]at he;obtain⟨rfl,rfl⟩:=he;simp only[Nat.zero_add]at g0 g1 g2;have lG:=zh g0));go_roundw
     case rel=>
      have hb0:=Hb0.out;have hlk:=zlq hC2.out HF.out Ho.out Hg.out hO1;refine⟨j-1,v6 fs c i x.q (x.b*4294967296+x.q),c++ [i],by omega,by rw[show((j-1:Nat):Int)=(j:Int) -1 by omega],(qh _ _ _ _ _).trans Hfl2.out,by have:=Hcl2.out;simp at this|-;omega,?_,Hpush.out,?_,?_,?_,?_,?_⟩
      ·obtain⟨d,hd⟩:=Hpre.out
       exact⟨d++ [i],by rw[<-List.append_assoc,<-hd]⟩
      ·exact SOw.far hlk (by simp;omega) (by simp;omega) _
      ·exact But.fresh (But.setCell (hBw.trans hB1) (by simp) _) (by simp;omega) _
      ·rw[<-Hfl2.out]
       exact(kS1.far (by simp;omega) _).far (by simp) _
      ·rw[zes hl,Hp0.out,zjp]
       exact(kI1.far (by simp;omega) _).set_ 3 _
      ·exact(kR1.far (by simp;omega) _).far (by simp) _
     case measure=>simp[intOf];omega
   ·have dj:decide ((0:Int)<j)=false:=by simp;omega
    have dj':decide (0<j)=false:=by simp;omega
    obtain rfl:j=0:=by omega
    have hcc:yJ (wd+n) B=c.length:=by have:=HK.out;have:=Hwd.out;have:=Hcl2.out;omega
    have hl:0<c.length:=by
     rcases Nat.eq_zero_or_pos c.length with h0|h0
     ·have:=zcr (wd:=wd+n) (B:=B) (by omega) (by omega)
      omega
     ·exact h0
    have hg:c[0]? =some c[0]:=List.getElem?_eq_getElem hl;generalize c[0]'hl=g at hg;have hp0:yz c 0=(g:Int):=qO hg;have hgl:=hC2.out.lt List.mem_cons_self hg;simp only at hgl;have hwc:=xL (wd:=wd+n) (n:=c.length) (B:=B) (by omega) (by omega);have hgB:g*B<=64*256:=Nat.mul_le_mul (by omega) hb2
    have hgBI:(g:Int)*B<=16384:=by
     have:((g*B:Nat):Int)<=16384:=by omega
     rwa[Int.natCast_mul]at this
    have hgB0:0<=(g:Int)*B:=Int.mul_nonneg (by omega) (by omega);have hB':(2:Int)^S.sh=B:=by rw[<-hB];simp
    have s1:(S.sh:Int).toNat=S.sh:=by omega
    have HB:=Lib.hid hB;have Hg:=Lib.hid hg;have Hp0:=Lib.hid hp0;have Hcc:=Lib.hid hcc;rw[hp0]at kI;clear hB hg hp0 hcc;have hbw:gW<b0:=by have:=Hb0.out;omega
    have hbf:gF<b0:=by have:=Hb0.out;omega
    have cS:=kS.cell;have lS:=kS.lt;have cI:=kI.cell;have fI:=kI.froz;have hO4:=SOw.far hO (p:=⟨b0+1,4,none⟩) (by simp;omega) (by simp;omega) (.int .i64 ((wd:Int)+n));have kR1:=kR.far (p:=⟨b0+1,4,none⟩) (by simp) (.int .i64 ((wd:Int)+n));have lI:=kI.lt;have kI1:=kI.set_ 4 (.int .i64 ((wd:Int)+n));go_wp2_with(first|(go_at_call 65;refine(zik _ _ cW cF ⟨S.sh,S.ws,fs⟩ (⟨x.q,x.b,c⟩::L) ⟨x.q,x.b,c⟩ _ g B wd _ hO4.rd hC2.out List.mem_cons_self HB.out Hg.out rfl (show wd<c.length*B by omega)).mono ?_;rintro e w1 ⟨rfl,hE3⟩;have kI2:=kI1.ext hE3;have kR2:=kR1.ext hE3;have cI2:=kI2.cell;have lI2:=kI2.lt;have cR2:=kR2.cell;have fR2:=kR2.froz;have lR2:=kR2.lt));refine bodyPost_ret (v:= .tuple #[.agg #[.int .i64 x.q,.int .i64 x.b,.int .i64 g,.int .i64 (yp c),.int .i64 ((wd:Int)+n)],.int .i64 (zy c B wd:Nat),.int .i64 0]) (by simp[results,Tryz.results76,go_sem,cR2]) rfl (Or.inr ⟨fs,c,?_,Hfl2.out,Hcc.out,Hpre.out,hC2.out,?_,?_⟩)
    ·simp only[Hp0.out,Int.natCast_add]
    ·repeat(refine SOw.far ?_ (by simp;omega) (by simp;omega) _)
     exact hO4.ext hE3
    ·have hb0:=Hb0.out
     repeat(refine But.fresh ?_ (by simp;omega) _)
     exact But.trans (But.fresh hBw (by simp;omega) _) (hE3.but _)
 ·have d1:decide (((frK S.fs S.fs.length).length:Int)<K)=true:=by(first|omega|(simp;done)|(simp;omega))
  have d1':decide ((frK S.fs S.fs.length).length<K)=true:=by(first|omega|(simp;done)|(simp;omega))
  go_wp2_with(first|(go_at_call 91;refine(zad _ _ cW cF S x wd n B _ hsh hB hwb hnb).mono ?_;rintro e w1 ⟨rfl,hE1⟩;have kS1:=kS.ext hE1;have kI1:=kI.ext hE1;have kR1:=kR.ext hE1;have cS1:=kS1.cell;have lS1:=kS1.lt;have cI1:=kI1.cell;have lI1:=kI1.lt)|(go_at_call 92;refine(qT _ _ cW cF S _ ((h.ext (hEW.trans hE1)).rd) hn2).mono ?_;rintro e w1 ⟨D,d,rfl,hD,hE2⟩;have kS2:=kS1.ext hE2;have kI2:=kI1.ext hE2;have kR2:=kR1.ext hE2;have cS2:=kS2.cell;have lS2:=kS2.lt;have cI2:=kI2.cell;have lI2:=kI2.lt;have cR2:=kR2.cell;have fR2:=kR2.froz;have lR2:=kR2.lt));refine bodyPost_ret (v:= .tuple #[.agg #[.int .i64 0,.int .i64 0,.int .i64 0,.int .i64 0,.int .i64 0],.int .i64 0,.int .i64 4]) (by simp[results,Tryz.results76,go_sem,cR2]) rfl (Or.inl ⟨rfl,?_⟩);have hb0:=Hb0.out;repeat(refine Ext.setCell ?_ (by simp;omega) _)
  exact(hEW.trans hE1).trans hE2
theorem zew(r d:Nat)(w:World)(h1:r<=15)(h2:d<=32):
 Calls Tryz.prog 54 #[.int .i64 r,.int .i64 d] w fun e w'=>(∃z:Int,e= .returned (.tuple #[.int .u64 z,.int .i64 0]))∧w=w':=by
 have d1:decide ((15:Int)<r)=false:=by(first|omega|(simp;done)|(simp;omega))
 have d1':decide (15<r)=false:=by(first|omega|(simp;done)|(simp;omega))
 have d2:decide ((32:Int)<d)=false:=by(first|omega|(simp;done)|(simp;omega))
 have d2':decide (32<d)=false:=by(first|omega|(simp;done)|(simp;omega))
 go_enter Tryz.func54,Tryz.ntmps54;go_wp2
 go_ret2
 exact⟨⟨_,rfl⟩,rfl⟩
theorem Chs.word{S:Sp}{L:List Ch}{x:Ch}{B p:Nat}(h:Chs S L)(hx:x∈L)(hB:2^S.sh=B)(hp:p<x.c.length*B)(z:Int):zy x.c B p<S.ws.length∧Chs ⟨S.sh,S.ws.set (zy x.c B p) z,S.fs⟩ L:=by
 have hb1:=(yG h.sh).1;rw[hB]at hb1;obtain⟨m,g,r,hg,hr,hmp⟩:=zbf (c:=x.c) (B:=B) (p:=p) (by omega) hp;rw[j5 hg hr hmp];have hgl:=h.lt hx hg;have hgu:g∈used L:=xu.2 ⟨x,hx,m,hg⟩;have hwl:=h.wl;rw[hB]at hwl;have h1:(g+1)*B<=S.fs.length*B:=Nat.mul_le_mul_right _ (by omega);rw[Nat.succ_mul]at h1;refine⟨by omega,⟨h.sh,h.n2,by simpa using h.wl,h.ids,h.sq,h.fr,h.nd,h.free,?_⟩⟩;intro f hf hu j hj;have hz:=h.zero f hf hu j hj;simp only[hB]at hz hj|-;rw[List.getElem?_set,if_neg]
 ·exact hz
 ·intro he
  have:g=f:=by
   have e1:(g*B+r)/B=g:=by rw[Nat.add_comm,Nat.add_mul_div_right _ _ (by omega),Nat.div_eq_of_lt hr];omega
   have e2:(f*B+j)/B=f:=by rw[Nat.add_comm,Nat.add_mul_div_right _ _ (by omega),Nat.div_eq_of_lt hj];omega
   rw[<-e1,<-e2,he]
  subst this;exact hu hgu
theorem SOw.word{w:World}{base gW cW gF cF:Nat}{S:Sp}(h:SOw w base S gW cW gF cF)(t:Nat)(z:Int):SOw (w.setCell ⟨gW,t,none⟩ (.int .u64 z)) base ⟨S.sh,S.ws.set t z,S.fs⟩ gW cW gF cF:=by
 have h1:=yv h.W t (.int .u64 z);rw[<-zac]at h1;refine⟨by simpa using h1,yf h.F h.ne.symm _⟩
theorem vV(A Bf:Option Addr)(a b:Nat)(S:Sp)(L:List Ch)(x:Ch)(B p k t t':Nat)(z:Int)(w:World)(h:SRd w S A Bf)(hS:Chs S L)(hx:x∈L)(hB:2^S.sh=B)(hp:p+k<x.c.length*B)(hz:z=(k:Int))(ht:zy x.c B p=t)(ht':zy x.c B (p+k)=t'):
 Calls Tryz.prog 65 #[spV S A a Bf b,.int .i64 (t:Int),.int .i64 z] w (vk w t'):=by
 subst hz ht ht';exact zlj A Bf a b S L x B p k w h hS hx hB hp
end Go.Proofs.YtopcdfbplknmlaaGreat
