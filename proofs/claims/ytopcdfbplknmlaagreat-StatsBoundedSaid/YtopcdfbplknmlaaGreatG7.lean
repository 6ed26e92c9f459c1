/- Part of the proof of the claim: walks and plain laws; each theorem states its own conditions. -/
import Derived.Test.YtopcdfbplknmlaaGreatL
import Derived.Test.YtopcdfbplknmlaaGreatG6
set_option linter.all false
namespace Go.Proofs.YtopcdfbplknmlaaGreat
open Go.RowKit Go.Draw
section
variable{S0 S:Sp} {B:Nat} {C R:List In} {T0 T:In} {M:List (AO×AO)} {sc:Nat->Nat->Prop} {li:List Inc}
theorem Rn.old3(h:Rn S0 S B C R T0 T M sc)(h0:Lay S0 B (T0::(R++C))){o:AO}(ho:o∈aos B (T0::R)):o∈aos B (T::R):=by
 obtain⟨i,hi,b,hb,e⟩:=zK.1 ho;have hB0:0<B:=by have:=h0.B8;omega
 rcases List.mem_cons.1 hi with rfl|hi
 ·obtain⟨nb,h1,_⟩:=h.obs
  obtain⟨d,hd⟩:=h.chn;refine zK.2 ⟨T,List.mem_cons_self,b,by rw[h1];exact List.mem_append_left _ hb,?_⟩;rw[hd,v7 hB0 (h0.bd List.mem_cons_self hb)];exact e
 ·exact zK.2 ⟨i,List.mem_cons_of_mem _ hi,b,hb,e⟩
def LiC(li:List Inc)(C:List In):Prop:=li.map (·.q)=C.map (·.x.q)
theorem zfg{I:List In}(h:Lay S B I){i:In}(hi:i∈I){b:Ob}(hb:b∈i.obs):yT S li (((zZ B i.x.c b).f 0:Nat)+1)=li.any fun j=>decide (i.x.q=j.q):=by
 obtain⟨F,hF,hFo,_,_,_⟩:=h.owner hi hb (k:=0) (by unfold Ob.n;omega);unfold yT frB;rw[h.pow,show(((zZ B i.x.c b).f 0:Nat)+1-1:Int).toNat=(zZ B i.x.c b).f 0 by omega,hF,<-hFo];have:decide ((0:Int)<((zZ B i.x.c b).f 0:Nat)+1)=true:=by(first|omega|(simp;done)|(simp;omega))
 rw[this];rfl
theorem zo7(h:Rn S0 S B C R T0 T M sc)(h0:Lay S0 B (T0::(R++C)))(hl:LiC li C){o:AO}(ho:o∈aos B (T0::R)):yT S li ((o.f 0:Nat)+1)=false:=by
 obtain⟨i,hi,b,hb,rfl⟩:=zK.1 (h.old3 h0 ho)
 have hi':i∈T::(R++C):=by
  rcases List.mem_cons.1 hi with rfl|hi
  ·exact List.mem_cons_self
  ·exact List.mem_cons_of_mem _ (List.mem_append_left _ hi)
 rw[zfg h.lay hi' hb,List.any_eq_false];intro j hj;simp only[decide_eq_true_eq];intro e;have hjq:j.q∈C.map (·.x.q):=by rw[<-hl];exact List.mem_map.2 ⟨j,hj,rfl⟩
 obtain⟨c,hc,hcq⟩:=List.mem_map.1 hjq;have hq:=h.lay.ch.sq;simp only[List.map_cons,List.map_append,List.nodup_cons,List.nodup_append,List.mem_append,List.mem_map,not_or,not_exists,not_and]at hq;rcases List.mem_cons.1 hi with rfl|hi
 ·exact hq.1.2 c.x ⟨c,hc,rfl⟩ (by rw[e];exact hcq)
 ·exact hq.2.2.2 i.x.q ⟨i.x,⟨i,hi,rfl⟩,rfl⟩ c.x.q ⟨c.x,⟨c,hc,rfl⟩,rfl⟩ (by rw[e];exact hcq.symm)
theorem zmd(h:Rn S0 S B C R T0 T M sc)(hl:LiC li C){o:AO}(ho:o∈aos B C):yT S li ((o.f 0:Nat)+1)=true:=by
 obtain⟨i,hi,b,hb,rfl⟩:=zK.1 ho;rw[zfg h.lay (List.mem_cons_of_mem _ (List.mem_append_right _ hi)) hb,List.any_eq_true];have hq:i.x.q∈li.map (·.q):=by rw[hl];exact List.mem_map.2 ⟨i,hi,rfl⟩
 obtain⟨j,hj,e⟩:=List.mem_map.1 hq;exact⟨j,hj,by simpa using e.symm⟩
theorem Rn.ad(h:Rn S0 S B C R T0 T M sc)(h0:Lay S0 B (T0::(R++C))){v:Int}(hv:Ptr (aos B (T0::(R++C))) v):adW S v:=by
 rcases hv with rfl|⟨o,ho,rfl⟩
 ·exact .inl rfl
 ·obtain⟨i,hi,b,hb,rfl⟩:=zK.1 ho
  obtain⟨F,_,_,_,_,hlt⟩:=h0.owner hi hb (k:=0) (by unfold Ob.n;omega);exact .inr ⟨_,rfl,by rw[h.ln.1];exact hlt⟩
theorem Rn.copied(h:Rn S0 S B C R T0 T M sc){i:In}(hi:i∈C){b:Ob}(hb:b∈i.obs)(hM:(zZ B i.x.c b).f 0∉M.map (·.1.f 0)){fs:List Fr}{tc:List Nat}{ws ws1:List Int}(hfs:fs.length=S.fs.length)(hcl:yJ (T.wd+(1+b.r+b.d)) B=tc.length)(hcd: ∃d,tc=T.x.c++d)
 (hch:Chs ⟨S.sh,ws,fs⟩ (⟨T.x.q,T.x.b,tc⟩::(R++C).map (·.x))) (hcp:CpI ws1 S tc T.wd i.x b.o B (b.r+b.d+1)) (hws:ws=ws1.set (zy i.x.c B b.o) (2*(zy tc B T.wd:Nat)+1)) (hs: ∀e,¬sc M.length e):
 Rn S0 ⟨S.sh,ws,fs⟩ B C R T0 ⟨⟨T.x.q,T.x.b,tc⟩,T.wd+(1+b.r+b.d),T.obs++ [⟨T.wd,b.r,b.d⟩]⟩ (M++ [(zZ B i.x.c b,zZ B tc ⟨T.wd,b.r,b.d⟩)]) sc:=by
 have ho:zZ B i.x.c b∈aos B C:=zK.2 ⟨i,hi,b,hb,rfl⟩;have hf: ∀k,k<b.n->(zZ B i.x.c b).f k=zy i.x.c B (b.o+k):=fun k hk=>yn hk
 have hi':i∈T::(R++C):=List.mem_cons_of_mem _ (List.mem_append_right _ hi);have hbn:b.n=1+b.r+b.d:=rfl;have hB8:=h.lay.B8;have hpw:2^(⟨S.sh,ws,fs⟩:Sp).sh=B:=h.lay.pow;have hix:i.x∈⟨T.x.q,T.x.b,tc⟩::(R++C).map (·.x):=List.mem_cons_of_mem _ (List.mem_map.2 ⟨i,List.mem_append_right _ hi,rfl⟩);have hin: ∀k,k<b.n->b.o+k<i.x.c.length*B:=fun k hk=>h.lay.in_ hi' hb hk
 have htn: ∀k,k<b.n->T.wd+k<tc.length*B:=fun k hk=>by
  have:=xL (B:=B) (by omega) (Nat.le_of_eq hcl);omega
 have hq:i.x.q≠T.x.q:=fun e=>h.lay.head_ne (List.mem_append_right _ hi) e.symm
 have hne: ∀j k,j<b.n->k<b.n->zy i.x.c B (b.o+j)≠zy tc B (T.wd+k):=fun j k hj hk=>zff hch hix List.mem_cons_self hpw (hin j hj) (htn k hk) hq
 have hwl:ws.length=S.ws.length:=by rw[hws,List.length_set];exact hcp.wl
 have h00:zy i.x.c B b.o=(zZ B i.x.c b).f 0:=by rw[hf 0 (by omega)];rfl
 have hget: ∀t,t≠(zZ B i.x.c b).f 0->ws.getD t 0=ws1.getD t 0:=fun t ht=>by
  rw[hws,List.getD_eq_getElem?_getD,List.getElem?_set_ne (by rw[h00];exact fun e=>ht e.symm),List.getD_eq_getElem?_getD]
 have hcw: ∀k,k<b.n->ws.getD (zy tc B (T.wd+k)) 0=S.w ((zZ B i.x.c b).f k):=fun k hk=>by
  rw[hget _ (by rw[hf 0 (by omega)];exact fun e=>hne 0 k (by omega) hk e.symm),List.getD_eq_getElem?_getD,hcp.hc k (by omega),hf k hk];unfold Sp.w;rw[List.getD_eq_getElem?_getD]
 have key:=h.push (o:=zZ B i.x.c b) ho hM (fs:=fs) (c:=tc) (ws:=ws) hfs hcl hcd hch hwl (fun k hk=> .inl (hcw k hk)) (by have:=hcw 0 (by omega);exact this) ?_ ?_ hs
 ·exact key
 ·have hl:(zZ B i.x.c b).f 0<ws1.length:=by
   rw[hcp.wl,hf 0 (by omega)];obtain⟨_,_,_,_,_,hlt⟩:=h.lay.owner hi' hb (k:=0) (by omega);rw[hf 0 (by omega)]at hlt;exact hlt
  rw[hws,h00,List.getD_eq_getElem?_getD,List.getElem?_set_self hl];rfl
 ·intro t ht1 ht2
  rw[hget t ht1,List.getD_eq_getElem?_getD,hcp.ho t (fun j hj=>ht2 j (by show j<b.n;omega))];unfold Sp.w;rw[List.getD_eq_getElem?_getD]
end
def zme(w:World)(base nb g gW cW gF cF:Nat)(S0 S:Sp)(B:Nat)(C R:List In)(T0:In)(D:Option Addr)(c:Nat)(li:List Inc)(T:In)(mA:Option Addr)(mc:Nat)(M:List (AO×AO))(sc:Nat->Nat->Prop)(v:Int)(r:Ending)(w':World):Prop:=
 (r= .returned (.int .u64 v)∧WkM w' base nb g gW cW gF cF S D c li T mA mc M 4∧But (mvS g gW gF mA M.length mc) w w')∨
 ∃(v':Int) (S':Sp) (T':In) (mA':Option Addr) (mc':Nat) (M':List (AO×AO)),r= .returned (.int .u64 v')∧WkM w' base nb g gW cW gF cF S' D c li T' mA' mc' M' 0∧Rn S0 S' B C R T0 T' M' sc∧Fwd (aos B C) M' v v'∧(M'=M∨∃p,M'=M++ [p])∧But (mvS g gW gF mA M.length mc) w w'
theorem zo8(base nb g gW cW gF cF:Nat)(S0 S:Sp)(B:Nat)(C R:List In)(T0:In)(D:Option Addr)(c:Nat)(li:List Inc)(T:In)(mA:Option Addr)(mc:Nat)(M:List (AO×AO))(sc:Nat->Nat->Prop)(v:Int)(w:World)(hk:WkM w base nb g gW cW gF cF S D c li T mA mc M 0)(hbw:base<=w.heap.size)(hn:li.length<=1000)(hM:M.length<=100000)
 (hR:Rn S0 S B C R T0 T M sc) (h0:Hok S0 B (T0::(R++C))) (hl:LiC li C) (hs: ∀e,¬sc M.length e) (hv:Ptr (aos B (T0::(R++C))) v):
 Calls Tryz.prog 120 #[.pointer (some ⟨g,0,none⟩),.int .u64 v] w (zme w base nb g gW cW gF cF S0 S B C R T0 D c li T mA mc M sc v):=by
 have hch:Chs S (T.x::(R++C).map (·.x)):=hR.lay.ch;have had:=hR.ad h0.lay hv;rcases hv with rfl|⟨o,ho,rfl⟩
 ·refine(zfe base nb g gW cW gF cF S _ D c li T mA mc M 0 w hk hch had hn (by simp[yT])).mono ?_
  rintro r w' ⟨rfl,hE⟩;exact .inr ⟨0,S,T,mA,mc,M,rfl,hk.ext hE,hR,.inl ⟨rfl,fun o _=>by omega⟩,.inl rfl,hE.but _⟩
 ·obtain⟨i,hi,b,hb,rfl⟩:=zK.1 ho
  have hpart:zZ B i.x.c b∈aos B (T0::R)∨i∈C:=by
   rcases List.mem_cons.1 hi with rfl|hi
   ·exact .inl (zK.2 ⟨_,List.mem_cons_self,b,hb,rfl⟩)
   ·rcases List.mem_append.1 hi with hi|hi
    ·exact .inl (zK.2 ⟨i,List.mem_cons_of_mem _ hi,b,hb,rfl⟩)
    ·exact .inr hi
  rcases hpart with hpart|hiC
  ·refine(zfe base nb g gW cW gF cF S _ D c li T mA mc M _ w hk hch had hn (zo7 hR h0.lay hl hpart)).mono ?_
   rintro r w' ⟨rfl,hE⟩;refine .inr ⟨_,S,T,mA,mc,M,rfl,hk.ext hE,hR,.inl ⟨rfl,fun o' ho' e=> ?_⟩,.inl rfl,hE.but _⟩;exact(hR.away h0.lay hpart (k:=0) (by unfold AO.n;omega)).1 o' ho' 0 (by unfold AO.n;omega) (by omega)
  ·have hoC:zZ B i.x.c b∈aos B C:=zK.2 ⟨i,hiC,b,hb,rfl⟩
   have hwin:=zmd hR hl hoC;have hi':i∈T::(R++C):=List.mem_cons_of_mem _ (List.mem_append_right _ hiC);obtain⟨F,_,_,_,_,hlt⟩:=hR.lay.owner hi' hb (k:=0) (by unfold Ob.n;omega);by_cases hm:(zZ B i.x.c b).f 0∈M.map (·.1.f 0)
   ·obtain⟨p,hp,hpe⟩:=List.mem_map.1 hm
    obtain⟨_,_,_,hw⟩:=hR.cy.old p hp;rw[hpe]at hw;obtain⟨b2,hb2,e2⟩:=hR.new_ hp
    have hlt2:p.2.f 0<S.ws.length:=by
     rw[e2];exact(hR.lay.owner List.mem_cons_self hb2 (k:=0) (by unfold Ob.n;omega)).choose_spec.2.2.2.2
    refine(zmb base nb g gW cW gF cF S _ D c li T mA mc M _ (p.2.f 0) w hk hch hlt hn hwin hw (by have:=zav hch;omega)).mono ?_;rintro r w' ⟨rfl,hE⟩;exact .inr ⟨_,S,T,mA,mc,M,rfl,hk.ext hE,hR,.inr ⟨p,hp,by rw[hpe],rfl⟩,.inl rfl,hE.but _⟩
   ·obtain⟨h1,h2,h3⟩:=h0.head _ (qK (fun i hi=>List.mem_cons_of_mem _ (List.mem_append_right _ hi)) hoC)
    have hw:=hR.cy.here _ hoC hm;rw[h3]at hw;have h00:zy i.x.c B b.o=(zZ B i.x.c b).f 0:=by rw[yn (by unfold Ob.n;omega)];rfl
    have hh:S.ws[zy i.x.c B b.o]? =some (hd b.r b.d):=by
     rw[h00,List.getElem?_eq_getElem hlt];have:S.w ((zZ B i.x.c b).f 0)=S.ws[(zZ B i.x.c b).f 0]:=by unfold Sp.w;rw[List.getD_eq_getElem?_getD,List.getElem?_eq_getElem hlt];rfl
     rw[<-this,hw];rfl
    refine(zjz base nb g gW cW gF cF S ((R++C).map (·.x)) D c li T mA mc M i.x b.o _ b.r b.d B w hk hbw hch (List.mem_map.2 ⟨i,List.mem_append_right _ hiC,rfl⟩) hR.lay.pow (hR.lay.fit T List.mem_cons_self) hn hM (by have:=hR.lay.in_ hi' hb (k:=b.r+b.d) (by unfold Ob.n;omega);exact this) h1 h2 h00 hh hwin).mono ?_;rintro r w' (⟨rfl,hk2,hB2⟩|⟨fs,tc,ws,mA',mc',rfl,a1,a2,a3,a4,⟨ws1,a5,a6⟩,a7,a8⟩)
    ·exact .inl ⟨rfl,hk2,hB2⟩
    ·refine .inr ⟨_,⟨S.sh,ws,fs⟩,_,mA',mc',_,rfl,a7,hR.copied hiC hb hm a1 a2 a3 a4 a5 a6 hs,.inr ⟨_,List.mem_append_right _ (List.mem_singleton.2 rfl),rfl,?_⟩,.inr ⟨_,rfl⟩,a8⟩
     show _=(((zZ B tc ⟨T.wd,b.r,b.d⟩).f 0:Nat):Int)+1;rw[yn (by unfold Ob.n;omega)];rfl
section
variable{w w':World} {base nb g gW cW gF cF:Nat} {S0 S:Sp} {B:Nat} {C R:List In} {T0 T:In} {D:Option Addr} {c:Nat} {li:List Inc} {mA:Option Addr} {mc:Nat} {M:List (AO×AO)} {sc:Nat->Nat->Prop} {e:Int}
def zd0(w':World)(base nb g gW cW gF cF:Nat)(S0 S:Sp)(B:Nat)(C R:List In)(T0:In)(D:Option Addr)(c:Nat)(li:List Inc)(T:In)(mA:Option Addr)(mc:Nat)(M:List (AO×AO))(sc:Nat->Nat->Prop)(v v':Int):Prop:=
 (v'=v∧WkM w' base nb g gW cW gF cF S D c li T mA mc M 4)∨
 ∃(S':Sp) (T':In) (mA':Option Addr) (mc':Nat) (M':List (AO×AO)),WkM w' base nb g gW cW gF cF S' D c li T' mA' mc' M' 0∧Rn S0 S' B C R T0 T' M' sc∧Fwd (aos B C) M' v v'∧(M'=M∨∃p,M'=M++ [p])
theorem kl(h:SOw w base S gW cW gF cF){x:Nat}(hx:x<S.ws.length):(∃z,w.cell? ⟨gW,x,none⟩=some (.int .u64 z))∧∀j,w.frozen? ⟨gW,j,none⟩=false:=by
 obtain⟨z,hz⟩: ∃z,S.ws[x]? =some z:=⟨_,List.getElem?_eq_getElem hx⟩;exact⟨⟨z,(zz h.W).1 x _ (xV hz)⟩,(zz h.W).2⟩
theorem zd0.cell{v v':Int}(h:zd0 w' base nb g gW cW gF cF S0 S B C R T0 D c li T mA mc M sc v v')(hR:S.ws.length=S0.ws.length){x:Nat}(hx:x<S.ws.length):(∃z,w'.cell? ⟨gW,x,none⟩=some (.int .u64 z))∧∀j,w'.frozen? ⟨gW,j,none⟩=false:=by
 rcases h with⟨_,h⟩|⟨S',T',mA',mc',M',h,hR',_⟩
 ·exact kl h.s hx
 ·exact kl h.s (by rw[hR'.ln.1,<-hR];exact hx)
theorem zmf(hk:WkM w base nb g gW cW gF cF S D c li T mA mc M 0)(hbw:base<=w.heap.size)(hn:li.length<=1000)(hM:M.length<=100000)
 (hR:Rn S0 S B C R T0 T M sc) (h0:Hok S0 B (T0::(R++C))) (hl:LiC li C) (hs: ∀e,¬sc M.length e) {v:Int} (hv:Ptr (aos B (T0::(R++C))) v):
 Calls Tryz.prog 120 #[.pointer (some ⟨g,0,none⟩),.int .u64 v] w fun r w'=> ∃v',r= .returned (.int .u64 v')∧But (mvS g gW gF mA M.length mc) w w'∧zd0 w' base nb g gW cW gF cF S0 S B C R T0 D c li T mA mc M sc v v':=by
 refine(zo8 base nb g gW cW gF cF S0 S B C R T0 D c li T mA mc M sc v w hk hbw hn hM hR h0 hl hs hv).mono ?_;rintro r w' (⟨rfl,h1,h2⟩|⟨v',S',T',mA',mc',M',rfl,h1,h2,h3,h4,h5⟩)
 ·exact⟨v,rfl,h2,.inl ⟨rfl,h1⟩⟩
 ·exact⟨v',rfl,h5,.inr ⟨S',T',mA',mc',M',h1,h2,h3,h4⟩⟩
theorem ziu: ∀(l:List (AO×AO)),l.length<=(l.map (·.1.n)).sum
 | []=>by simp
 |p::l=>by
  have:=ziu l;have:1<=p.1.n:=by unfold AO.n;omega
  simp only[List.length_cons,List.map_cons,List.sum_cons];omega
theorem Rn.mlen(h:Rn S0 S B C R T0 T M sc):M.length<=16384:=by
 have h1:=ziu M;have h2:=h.lay.len List.mem_cons_self;have h3:=h.wd;omega
theorem But.mv{w0:World}(h:But [gW,gF] w0 w)(hB:But (mvS g gW gF mA M.length mc) w w')(hg:w0.heap.size<=g)(hm:w.ownsRow w0.heap.size 211 2 (.slice mA M.length mc) M.length (q9 M)):But [gW,gF] w0 w':=by
 refine⟨hB.os.trans h.os,hB.tape.trans h.tape,hB.output.trans h.output,Nat.le_trans h.size hB.size,fun k hk hn=>(hB.block k (by have:=h.size;omega) (fun hm'=> ?_)).trans (h.block k hk hn)⟩;simp only[mvS,List.mem_cons]at hm' hn;rcases hm' with rfl|rfl|rfl|hm'
 ·omega
 ·exact hn (.inl rfl)
 ·exact hn (.inr (.inl rfl))
 ·have:=(World.ownsRow.lt hm k (Option.mem_toList.1 hm')).1
  omega
theorem WkM.keepO(h:WkM w base nb g gW cW gF cF S D c li T mA mc M e)(hB:But (mvS g gW gF mA M.length mc) w w'){v:Value}{n:Nat}{xs:List Value}(hO:w.ownsRow nb 67 1 v n xs):w'.ownsRow nb 67 1 v n xs:=by
 refine zo hO hB (fun b hb hm=> ?_);have hlo:=(World.ownsRow.lt hO b hb).1;have hh:=h.h;simp only[mvS,List.mem_cons]at hm;rcases hm with rfl|rfl|rfl|hm
 ·exact zN hO h.k (by decide) hb
 ·omega
 ·omega
 ·exact yk hO h.m (by decide) hb (Option.mem_toList.1 hm)
theorem WkM.box_(h:WkM w base nb g gW cW gF cF S D c li T mA mc M e){b:Nat}{t:TypeId}{cs:Array Value}(k:Blk w b t cs)(ht:211≠t)(hb:nb<=b)(hg:b≠g):b∉mvS g gW gF mA M.length mc:=by
 have hh:=h.h;simp only[mvS,List.mem_cons,not_or];refine⟨hg,by omega,by omega,fun hm=> ?_⟩;exact zN h.m k ht (Option.mem_toList.1 hm)
theorem WkM.out(h:WkM w base nb g gW cW gF cF S D c li T mA mc M e){v:Value}{n:Nat}{xs:List Value}(hO:w.ownsRow nb 67 1 v n xs)(hB:But v.ownBlock.toList w w'):WkM w' base nb g gW cW gF cF S D c li T mA mc M e:=by
 have hh:=h.h;have hlo: ∀b,b∈v.ownBlock.toList->nb<=b:=fun b hb=>(World.ownsRow.lt hO b (Option.mem_toList.1 hb)).1
 refine⟨h.k.but hB (fun hm=>zN hO h.k (by decide) (Option.mem_toList.1 hm)),h.s.but hB (fun hm=>by have:=hlo _ hm;omega) (fun hm=>by have:=hlo _ hm;omega),zo h.m hB (fun b hb hm=>yk h.m hO (by decide) hb (Option.mem_toList.1 hm)),zo h.i hB (fun b hb hm=>yk h.i hO (by decide) hb (Option.mem_toList.1 hm)),h.h⟩
def vq(wr:World)(base nb g gW cW gF cF:Nat)(S0:Sp)(B:Nat)(C R:List In)(T0:In)(D:Option Addr)(c:Nat)(li:List Inc)(sc:Nat->Nat->Prop)(P:List (AO×AO) ->Prop):Prop:=
 (∃(S:Sp) (T:In) (mA:Option Addr) (mc:Nat) (M:List (AO×AO)),WkM wr base nb g gW cW gF cF S D c li T mA mc M 0∧Rn S0 S B C R T0 T M sc∧P M)∨
 (∃(S:Sp) (T:In) (mA:Option Addr) (mc:Nat) (M:List (AO×AO)),WkM wr base nb g gW cW gF cF S D c li T mA mc M 4∧S.ws.length=S0.ws.length∧S.fs.length=S0.fs.length∧S.sh=S0.sh)
def jP(O:List AO)(zs zs':List Int)(M:List (AO×AO)):Prop:= ∀(k:Nat) (v v':Int),zs[k]? =some v->zs'[k]? =some v'->Fwd O M v v'
theorem jP.more{O:List AO}{zs zs':List Int}{M M':List (AO×AO)}(h:jP O zs zs' M)(hM:M'=M∨∃p,M'=M++ [p]):jP O zs zs' M':=fun k v v' h1 h2=>(h k v v' h1 h2).mono (fun p hp=>by
 rcases hM with rfl|⟨q,rfl⟩
 ·exact hp
 ·exact List.mem_append_left _ hp)
theorem jP.snoc{O:List AO}{zs zs':List Int}{M:List (AO×AO)}(h:jP O zs zs' M){v v':Int}(hz:zs[zs'.length]? =some v)(hv:Fwd O M v v'):jP O zs (zs'++ [v']) M:=by
 intro k u u' h1 h2;rcases Nat.lt_or_ge k zs'.length with hlt|hge
 ·rw[List.getElem?_append_left hlt]at h2
  exact h k u u' h1 h2
 ·have hk:=(List.getElem?_eq_some_iff.1 h2).1
  simp only[List.length_append,List.length_cons,List.length_nil]at hk;have:k=zs'.length:=by omega
  subst this;rw[hz]at h1;injection h1 with h1;rw[List.getElem?_append_right (Nat.le_refl _),Nat.sub_self]at h2;injection h2 with h2;subst h1 h2;exact hv
end
end Go.Proofs.YtopcdfbplknmlaaGreat
