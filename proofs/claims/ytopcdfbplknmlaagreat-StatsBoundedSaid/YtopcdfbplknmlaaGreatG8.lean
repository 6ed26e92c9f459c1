/- The walk of evacuate.Run (reference). Conditions: the ranges that each theorem states. -/
import Derived.Test.YtopcdfbplknmlaaGreatL
import Derived.Test.YtopcdfbplknmlaaGreatG7
set_option linter.all false
set_option maxHeartbeats 4000000
set_option maxRecDepth 100000
namespace Go.Proofs.YtopcdfbplknmlaaGreat
open Go.RowKit Go.Draw
def scR(k j:Nat):Nat->Nat->Prop:=fun i e=>i<k∨(i=k∧e<j)
def zqw(w:World)(base gW cW gF cF:Nat)(S0:Sp)(B:Nat)(C R:List In)(T0:In)(zs:List Int)(r:Ending)(w':World):Prop:=
 ∃(S:Sp) (T:In) (mA:Option Addr) (mc:Nat) (M:List (AO×AO)) (O:Option Addr) (oc:Nat) (zs':List Int) (e:Int),
  r= .returned (.tuple #[.agg #[.int .i64 T.x.q,.int .i64 T.x.b,.int .i64 (yz T.x.c 0),.int .i64 (yp T.x.c),.int .i64 T.wd],.slice mA M.length mc,.slice O zs'.length oc,.int .i64 e])∧
  SOw w' base S gW cW gF cF∧w'.ownsRow w.heap.size 211 2 (.slice mA M.length mc) M.length (q9 M)∧w'.ownsRow w.heap.size 67 1 (.slice O zs'.length oc) zs'.length (words zs')∧But [gW,gF] w w'∧
  ((e=0∧zs'.length=zs.length∧Rn S0 S B C R T0 T M (scR M.length 0)∧jP (aos B C) zs zs' M)∨e=4)
section
variable{w w':World} {base nb g gW cW gF cF:Nat} {S0 S:Sp} {B:Nat} {C R:List In} {T0 T:In} {D:Option Addr} {c:Nat} {li:List Inc} {mA:Option Addr} {mc:Nat} {M:List (AO×AO)} {sc:Nat->Nat->Prop} {e:Int}
structure MvFr(nb g gW gF:Nat)(w w':World):Prop where
 int: ∀(v:Value) (n:Nat) (xs:List Value),w.ownsRow nb 3 1 v n xs->w'.ownsRow nb 3 1 v n xs
 out: ∀(v:Value) (n:Nat) (xs:List Value),w.ownsRow nb 67 1 v n xs->w'.ownsRow nb 67 1 v n xs
 box: ∀(b:Nat) (t:TypeId) (cs:Array Value),Blk w b t cs->211≠t->nb<=b->b≠g->Blk w' b t cs
 but: ∀w0:World,w0.heap.size=nb->But [gW,gF] w0 w->But [gW,gF] w0 w'
theorem WkM.fr(h:WkM w base nb g gW cW gF cF S D c li T mA mc M e)(hB:But (mvS g gW gF mA M.length mc) w w'):MvFr nb g gW gF w w':=
 ⟨fun _ _ _ hO=>zo hO hB (fun b hb hm=>by
   have hlo:=(World.ownsRow.lt hO b hb).1;have hh:=h.h;simp only[mvS,List.mem_cons]at hm;rcases hm with rfl|rfl|rfl|hm
   ·exact zN hO h.k (by decide) hb
   ·omega
   ·omega
   ·exact yk hO h.m (by decide) hb (Option.mem_toList.1 hm)),fun _ _ _ hO=>h.keepO hB hO,fun b _ _ k ht hb hg=>k.but hB (h.box_ k ht hb hg),fun w0 h0 hw=>But.mv hw hB (by have:=h.h;omega) (by rw[h0];exact h.m)⟩
theorem zo9{X:List Nat}{w0:World}{n size:Nat}{v:Value}{t:TypeId}{xs:List Value}(h:But X w0 w)(hO:w.ownsRow w0.heap.size t size v n xs)(hB:But v.ownBlock.toList w w'):But X w0 w':=
 ⟨hB.os.trans h.os,hB.tape.trans h.tape,hB.output.trans h.output,Nat.le_trans h.size hB.size,fun k hk hn=>(hB.block k (by have:=h.size;omega) (fun hm=>by
   have:=(World.ownsRow.lt hO k (Option.mem_toList.1 hm)).1;omega)).trans (h.block k hk hn)⟩
theorem zd1{X:List Nat}{w0:World}{b:Nat}(h:But X w0 w)(hB:But [b] w w')(hb:w0.heap.size<=b):But X w0 w':=
 ⟨hB.os.trans h.os,hB.tape.trans h.tape,hB.output.trans h.output,Nat.le_trans h.size hB.size,fun k hk hn=>(hB.block k (by have:=h.size;omega) (by simp;omega)).trans (h.block k hk hn)⟩
theorem zmg{P:List (AO×AO) ->Prop}(h:vq w base nb g gW cW gF cF S0 B C R T0 D c li sc P)(hbw:base<=w.heap.size)(hn:li.length<=1000)(h0:Hok S0 B (T0::(R++C)))(hl:LiC li C)(hs: ∀M,P M-> ∀e,¬sc M.length e){v:Int}(hv:Ptr (aos B (T0::(R++C))) v):
 Calls Tryz.prog 120 #[.pointer (some ⟨g,0,none⟩),.int .u64 v] w fun r w'=> ∃v',r= .returned (.int .u64 v')∧MvFr nb g gW gF w w'∧vq w' base nb g gW cW gF cF S0 B C R T0 D c li sc (fun M'=>Fwd (aos B C) M' v v'∧∃M,P M∧(M'=M∨∃p,M'=M++ [p])):=by
 rcases h with⟨S,T,mA,mc,M,hk,hR,hP⟩|⟨S,T,mA,mc,M,hk,h1,h2,h3⟩
 ·refine(zmf hk hbw hn (by have:=hR.mlen;omega) hR h0 hl (hs M hP) hv).mono ?_
  rintro r w' ⟨v',rfl,hB,⟨rfl,hk'⟩|⟨S',T',mA',mc',M',hk',hR',hF,hM⟩⟩
  ·exact⟨_,rfl,hk.fr hB,.inr ⟨S,T,mA,mc,M,hk',hR.ln⟩⟩
  ·exact⟨_,rfl,hk.fr hB,.inl ⟨S',T',mA',mc',M',hk',hR',hF,M,hP,hM⟩⟩
 ·refine(zfd base nb g gW cW gF cF S D c li T mA mc M 4 v w hk (by decide)).mono ?_
  rintro r w' ⟨rfl,hE⟩;exact⟨_,rfl,hk.fr (hE.but _),.inr ⟨S,T,mA,mc,M,hk.ext hE,h1,h2,h3⟩⟩
theorem WkM.store(h:WkM w base nb g gW cW gF cF S D c li T mA mc M e)(x:Nat)(v:Int):WkM (w.setCell ⟨gW,x,none⟩ (.int .u64 v)) base nb g gW cW gF cF ⟨S.sh,S.ws.set x v,S.fs⟩ D c li T mA mc M e:=
 h.space (But.setCell (But.refl _ _) (by simp) _) (h.s.word x v) rfl (by simp) rfl
theorem zpa{k j:Nat}{v v':Int}{p:AO×AO}{zs zs':List Int}(hMS:zd0 w' base nb g gW cW gF cF S0 S B C R T0 D c li T mA mc M (scR k j) v v')(hp:M[k]? =some p)(hj:j<p.1.r)(hv:v=S0.w (p.1.f (1+j)))(hln:S.ws.length=S0.ws.length∧S.fs.length=S0.fs.length∧S.sh=S0.sh)(hF:jP (aos B C) zs zs' M):
 vq (w'.setCell ⟨gW,p.2.f (1+j),none⟩ (.int .u64 v')) base nb g gW cW gF cF S0 B C R T0 D c li (scR k (j+1)) (fun M'=>M'[k]? =some p∧jP (aos B C) zs zs' M'):=by
 rcases hMS with⟨rfl,hk⟩|⟨S',T',mA',mc',M',hk,hR,hFw,hM⟩
 ·exact .inr ⟨_,T,mA,mc,M,hk.store _ _,by simpa using hln⟩
 ·have hp':M'[k]? =some p:=by
   rcases hM with rfl|⟨q,rfl⟩
   ·exact hp
   ·rw[List.getElem?_append_left (List.getElem?_eq_some_iff.1 hp).1]
    exact hp
  have hpm:=List.mem_of_getElem? hp';obtain⟨b,hb,e2⟩:=hR.new_ hpm;obtain⟨_,hr,_,_⟩:=hR.cy.old p hpm;have hbr:b.r=p.2.r:=by rw[e2];rfl
  have hjn:1+j<b.n:=by unfold Ob.n;omega
  have hf:p.2.f (1+j)=zy T'.x.c B (b.o+(1+j)):=by rw[e2];exact yn hjn
  have hin:=hR.lay.in_ List.mem_cons_self hb hjn;obtain⟨_,_,_,_,_,hlt⟩:=hR.lay.owner List.mem_cons_self hb hjn;rw[<-e2]at hlt;have hch:=(Chs.word hR.lay.ch (hR.lay.mem List.mem_cons_self) hR.lay.pow hin v').2;rw[<-hf]at hch;refine .inl ⟨⟨S'.sh,S'.ws.set (p.2.f (1+j)) v',S'.fs⟩,T',mA',mc',M',hk.store _ _,hR.scan hp' hj (by rw[<-hv];exact hFw) rfl hlt hch (fun i e=> ?_),hp',hF.more hM⟩;unfold scR;omega
theorem vq.map{P Q:List (AO×AO) ->Prop}{sc':Nat->Nat->Prop}(h:vq w base nb g gW cW gF cF S0 B C R T0 D c li sc P)(hw: ∀S T mA mc M e,WkM w base nb g gW cW gF cF S D c li T mA mc M e->WkM w' base nb g gW cW gF cF S D c li T mA mc M e)(hP: ∀M,P M->Q M)(hsc: ∀M,P M-> ∀i e,i<M.length->(sc' i e↔sc i e)):vq w' base nb g gW cW gF cF S0 B C R T0 D c li sc' Q:=by
 rcases h with⟨S,T,mA,mc,M,hk,hR,hp⟩|⟨S,T,mA,mc,M,hk,h1,h2,h3⟩
 ·exact .inl ⟨S,T,mA,mc,M,hw _ _ _ _ _ _ hk,hR.same (hsc M hp),hP M hp⟩
 ·exact .inr ⟨S,T,mA,mc,M,hw _ _ _ _ _ _ hk,h1,h2,h3⟩
theorem Cy.same2{O:List AO}{w0 w:Nat->Int}{sc':Nat->Nat->Prop}(h:Cy O w0 w M sc)(hs: ∀(i:Nat) (p:AO×AO),M[i]? =some p-> ∀e,e<p.1.r->(sc' i e↔sc i e)):Cy O w0 w M sc':=by
 refine⟨h.nd,h.old,h.here,h.oldf,h.newh,h.newd,fun i p hp e he=> ?_,h.rest,h.fresh,h.apart⟩;rw[hs i p hp e he];exact h.newr i p hp e he
theorem vq.map2{P Q:List (AO×AO) ->Prop}{sc':Nat->Nat->Prop}(h:vq w base nb g gW cW gF cF S0 B C R T0 D c li sc P)(hP: ∀M,P M->Q M)(hsc: ∀M,P M-> ∀(i:Nat) (p:AO×AO),M[i]? =some p-> ∀e,e<p.1.r->(sc' i e↔sc i e)):vq w base nb g gW cW gF cF S0 B C R T0 D c li sc' Q:=by
 rcases h with⟨S,T,mA,mc,M,hk,hR,hp⟩|⟨S,T,mA,mc,M,hk,h1,h2,h3⟩
 ·exact .inl ⟨S,T,mA,mc,M,hk,⟨hR.lay,hR.cy.same2 (hsc M hp),hR.obs,hR.chn,hR.q,hR.b,hR.wd,hR.ln⟩,hP M hp⟩
 ·exact .inr ⟨S,T,mA,mc,M,hk,h1,h2,h3⟩
end
theorem zd2{Q:Ending->World->Prop}{a:Act}{W:World}{g1:Nat}{v0 v1 v2 v3 v4 t9 t10 t11:Value}(hd:a.defers= [])(h8:a.tmps[8]?.getD undef= .pointer (some ⟨g1,0,none⟩))(h9:a.tmps[9]?.getD undef=t9)(h10:a.tmps[10]?.getD undef=t10)(h11:a.tmps[11]?.getD undef=t11)
 (k1:Blk W g1 144 #[v0,v1,v2,v3,v4]) (hQ:Q (.returned (.tuple #[.agg #[v0,v1,v2,v3,v4],t9,t10,t11])) W):
 bodyPost Tryz.prog Tryz.f110 Q Exit.ret a W:=by
 have c1:=k1.cell;exact bodyPost_ret (v:= .tuple #[.agg #[v0,v1,v2,v3,v4],t9,t10,t11]) (by simp[results,Tryz.results110,go_sem,h8,h9,h10,h11,c1]) hd hQ
theorem zpb(base gW cW gF cF:Nat)(S0:Sp)(B:Nat)(C R:List In)(T0:In)(D Z:Option Addr)(c zc zb:Nat)(li:List Inc)(zs:List Int)(w:World)(h:SOw w base S0 gW cW gF cF)(hi:w.ownsRow 0 144 5 (.slice D li.length c) li.length (zQ li))(hz:w.ownsRow zb 67 1 (.slice Z zs.length zc) zs.length (words zs))(hzb:gW<zb)
 (hn:li.length<=1000) (hzl:zs.length<=100000) (h0:Hok S0 B (T0::(R++C))) (hl:LiC li C) (hv: ∀v∈zs,Ptr (aos B (T0::(R++C))) v):
 Calls Tryz.prog 110 #[spV S0 (some ⟨gW,0,none⟩) cW (some ⟨gF,0,none⟩) cF,.slice D li.length c,zeq T0.x T0.wd,.slice Z zs.length zc] w (zqw w base gW cW gF cF S0 B C R T0 zs):=by
 unfold spV zeq;have hlt:=h.lt;have H0:=Lib.hid h0;have HL:=Lib.hid hl;have HV:=Lib.hid hv;have hbw:base<=w.heap.size:=by omega
 clear h0 hl hv;go_enter Tryz.func110,Tryz.ntmps110;go_upto_region 3 with fail;have k4:Blk ((((w.alloc (.cells #[.int .i64 S0.sh,.slice (some ⟨gW,0,none⟩) S0.ws.length cW,.slice (some ⟨gF,0,none⟩) S0.fs.length cF] 29)).alloc (.cells #[.int .i64 T0.x.q,.int .i64 T0.x.b,.int .i64 (yz T0.x.c 0),.int .i64 (yp T0.x.c),.int .i64 T0.wd] 144)).alloc (.cells #[.int .i64 0,.int .i64 0,.int .i64 0,.int .i64 0,.int .i64 0] 144)).alloc (.cells #[.int .i64 S0.sh,.slice (some ⟨gW,0,none⟩) S0.ws.length cW,.slice (some ⟨gF,0,none⟩) S0.fs.length cF,.slice D li.length c,.int .i64 T0.x.q,.int .i64 T0.x.b,.int .i64 (yz T0.x.c 0),.int .i64 (yp T0.x.c),.int .i64 T0.wd,.slice none 0 0,.int .i64 0] 207)) w.heap.size 29 #[.int .i64 S0.sh,.slice (some ⟨gW,0,none⟩) S0.ws.length cW,.slice (some ⟨gF,0,none⟩) S0.fs.length cF]:=Blk.alloc (Blk.alloc (Blk.alloc (Blk.new rfl) _) _) _;have k8:Blk ((((w.alloc (.cells #[.int .i64 S0.sh,.slice (some ⟨gW,0,none⟩) S0.ws.length cW,.slice (some ⟨gF,0,none⟩) S0.fs.length cF] 29)).alloc (.cells #[.int .i64 T0.x.q,.int .i64 T0.x.b,.int .i64 (yz T0.x.c 0),.int .i64 (yp T0.x.c),.int .i64 T0.wd] 144)).alloc (.cells #[.int .i64 0,.int .i64 0,.int .i64 0,.int .i64 0,.int .i64 0] 144)).alloc (.cells #[.int .i64 S0.sh,.slice (some ⟨gW,0,none⟩) S0.ws.length cW,.slice (some ⟨gF,0,none⟩) S0.fs.length cF,.slice D li.length c,.int .i64 T0.x.q,.int .i64 T0.x.b,.int .i64 (yz T0.x.c 0),.int .i64 (yp T0.x.c),.int .i64 T0.wd,.slice none 0 0,.int .i64 0] 207)) (w.heap.size+2) 144 #[.int .i64 0,.int .i64 0,.int .i64 0,.int .i64 0,.int .i64 0]:=Blk.alloc (Blk.new (by simp)) _;have kg:Blk ((((w.alloc (.cells #[.int .i64 S0.sh,.slice (some ⟨gW,0,none⟩) S0.ws.length cW,.slice (some ⟨gF,0,none⟩) S0.fs.length cF] 29)).alloc (.cells #[.int .i64 T0.x.q,.int .i64 T0.x.b,.int .i64 (yz T0.x.c 0),.int .i64 (yp T0.x.c),.int .i64 T0.wd] 144)).alloc (.cells #[.int .i64 0,.int .i64 0,.int .i64 0,.int .i64 0,.int .i64 0] 144)).alloc (.cells #[.int .i64 S0.sh,.slice (some ⟨gW,0,none⟩) S0.ws.length cW,.slice (some ⟨gF,0,none⟩) S0.fs.length cF,.slice D li.length c,.int .i64 T0.x.q,.int .i64 T0.x.b,.int .i64 (yz T0.x.c 0),.int .i64 (yp T0.x.c),.int .i64 T0.wd,.slice none 0 0,.int .i64 0] 207)) (w.heap.size+3) 207 #[.int .i64 S0.sh,.slice (some ⟨gW,0,none⟩) S0.ws.length cW,.slice (some ⟨gF,0,none⟩) S0.fs.length cF,.slice D li.length c,.int .i64 T0.x.q,.int .i64 T0.x.b,.int .i64 (yz T0.x.c 0),.int .i64 (yp T0.x.c),.int .i64 T0.wd,.slice none 0 0,.int .i64 0]:=Blk.new (by simp);have hE0:Ext w ((((w.alloc (.cells #[.int .i64 S0.sh,.slice (some ⟨gW,0,none⟩) S0.ws.length cW,.slice (some ⟨gF,0,none⟩) S0.fs.length cF] 29)).alloc (.cells #[.int .i64 T0.x.q,.int .i64 T0.x.b,.int .i64 (yz T0.x.c 0),.int .i64 (yp T0.x.c),.int .i64 T0.wd] 144)).alloc (.cells #[.int .i64 0,.int .i64 0,.int .i64 0,.int .i64 0,.int .i64 0] 144)).alloc (.cells #[.int .i64 S0.sh,.slice (some ⟨gW,0,none⟩) S0.ws.length cW,.slice (some ⟨gF,0,none⟩) S0.fs.length cF,.slice D li.length c,.int .i64 T0.x.q,.int .i64 T0.x.b,.int .i64 (yz T0.x.c 0),.int .i64 (yp T0.x.c),.int .i64 T0.wd,.slice none 0 0,.int .i64 0] 207)):=by exact jX
 have e1:w.heap.size+1+1=w.heap.size+2:=rfl;have e2:w.heap.size+1+1+1=w.heap.size+3:=rfl;simp only[e1,e2];generalize((((w.alloc (.cells #[.int .i64 S0.sh,.slice (some ⟨gW,0,none⟩) S0.ws.length cW,.slice (some ⟨gF,0,none⟩) S0.fs.length cF] 29)).alloc (.cells #[.int .i64 T0.x.q,.int .i64 T0.x.b,.int .i64 (yz T0.x.c 0),.int .i64 (yp T0.x.c),.int .i64 T0.wd] 144)).alloc (.cells #[.int .i64 0,.int .i64 0,.int .i64 0,.int .i64 0,.int .i64 0] 144)).alloc (.cells #[.int .i64 S0.sh,.slice (some ⟨gW,0,none⟩) S0.ws.length cW,.slice (some ⟨gF,0,none⟩) S0.fs.length cF,.slice D li.length c,.int .i64 T0.x.q,.int .i64 T0.x.b,.int .i64 (yz T0.x.c 0),.int .i64 (yp T0.x.c),.int .i64 T0.wd,.slice none 0 0,.int .i64 0] 207))=W at*;clear e1 e2;obtain⟨g,hg⟩: ∃g,w.heap.size+3=g:=⟨_,rfl⟩;obtain⟨b8,hb8⟩: ∃b8,w.heap.size+2=b8:=⟨_,rfl⟩;obtain⟨b4,hb4⟩: ∃b4,w.heap.size=b4:=⟨_,rfl⟩;have hk0:WkM W base w.heap.size g gW cW gF cF S0 D c li T0 none 0 [] 0:=⟨by rw[<-hg];exact kg,h.ext hE0,zP _ _ _ _,zm hi hE0,by omega,by omega,by omega⟩;have hgs:w.heap.size<=g:=by omega
 have hb4s:w.heap.size<=b4:=by omega
 have hb8s:w.heap.size<=b8:=by omega
 have h4g:b4≠g:=by omega
 have h8g:b8≠g:=by omega
 have h48:b4≠b8:=by omega
 rw[hg,hb8,hb4];rw[hb4]at k4;rw[hb8]at k8;have Hb4:=Lib.hid hb4;clear kg hg hb8;go_wp2_with fail;go_loopw [13,28] (fun s i wr=> ∃(k:Nat) (O:Option Addr) (oc:Nat) (zs':List Int),k<=zs.length∧i= .int .i64 k∧s= .slice O zs'.length oc∧zs'.length=k∧wr.ownsRow w.heap.size 67 1 (.slice O zs'.length oc) zs'.length (words zs')∧But [gW,gF] w wr∧Blk wr b4 29 #[.int .i64 S0.sh,.slice (some ⟨gW,0,none⟩) S0.ws.length cW,.slice (some ⟨gF,0,none⟩) S0.fs.length cF]∧Blk wr b8 144 #[.int .i64 0,.int .i64 0,.int .i64 0,.int .i64 0,.int .i64 0]∧vq wr base w.heap.size g gW cW gF cF S0 B C R T0 D c li (scR 0 0) (jP (aos B C) zs zs')) (fun _ i _=>zs.length-(intOf i).toNat);case atStart=>exact⟨0,none,0,[],by omega,rfl,rfl,rfl,zP _ _ _ _,hE0.but _,k4,k8,.inl ⟨S0,T0,none,0,[],hk0,Rn.start H0.out.lay,fun k v v' _ h=>by simp at h⟩⟩
 case round=>
  clear k4 k8 hk0 hE0;obtain⟨k,O,oc,zs',hk,rfl,rfl,hkl,hO,hBw,k4,k8,hSt⟩:=hrel;have hszr:=hBw.size;have Hkl:=Lib.hid hkl;have hklb:zs'.length<=100000:=by omega
  clear hkl;by_cases hlt:k<zs.length
  ·have hdec:decide ((k:Int)<zs.length)=true:=by simp;omega
   have hdec':decide (k<zs.length)=true:=by simp;omega
   have hkI:(k:Int)<zs.length:=by omega
   obtain⟨v,hvk⟩: ∃v,zs[k]? =some v:=⟨_,List.getElem?_eq_getElem hlt⟩
   have hz2:=zo hz hBw (fun b hb hm=>by
    simp only[List.mem_cons,List.not_mem_nil,or_false]at hm;rcases hm with rfl|rfl
    ·have:=(World.ownsRow.lt hz b hb).1;omega
    ·exact yk hz h.F (by decide) hb rfl)
   obtain⟨bZ,oZ,rfl,z0⟩:=xw (Rd.of_own hz2) hvk;have lZ:=zh z0;have hcall:=zmg (v:=v) hSt (by omega) hn H0.out HL.out (fun M _ e=>by unfold scR;omega) (HV.out v (List.mem_of_getElem? hvk));have Hvk:=Lib.hid hvk;clear hvk hSt;go_wp2_with fail;go_at_call 120;refine hcall.mono ?_;rintro r w1 ⟨v',rfl,hfr,hSt⟩;have hO1:=hfr.out _ _ _ hO;have k41:=hfr.box _ _ _ k4 (by decide) hb4s h4g;have k81:=hfr.box _ _ _ k8 (by decide) hb8s h8g;have hBw1:=hfr.but w rfl hBw;have hsz1:=hBw1.size;clear hcall;go_wp2_with(first|(at_builtin;refine zJ rfl Tryz.elW _ _ rfl w.heap.size _ _ _ rfl (z8 hO1 _) _ 1 1 _ rfl (xm _ _ _) (by simp[Value.oneCell']) (by omega) (by omega) (by(first|omega|(simp;done)|(simp;omega))) ?_;intro A2 a2 w2 hO2 hg2 hat2;have hB2:=zL hg2));have hBw2:But [gW,gF] w w2:=zo9 (hBw1.alloc _) (z8 hO1 _) hB2;have hw2: ∀S T mA mc M e,WkM w1 base w.heap.size g gW cW gF cF S D c li T mA mc M e->WkM w2 base w.heap.size g gW cW gF cF S D c li T mA mc M e:=fun S T mA mc M e hk=>(hk.ext (Ext.alloc (Ext.refl _) _)).out (z8 hO1 _) hB2
   have k42:=(k41.alloc (.cells #[.int .u64 v'] 67)).but hB2 (fun hm=>zN (z8 hO1 (.cells #[.int .u64 v'] 67)) (k41.alloc (.cells #[.int .u64 v'] 67)) (by decide) (Option.mem_toList.1 hm));have k82:=(k81.alloc (.cells #[.int .u64 v'] 67)).but hB2 (fun hm=>zN (z8 hO1 (.cells #[.int .u64 v'] 67)) (k81.alloc (.cells #[.int .u64 v'] 67)) (by decide) (Option.mem_toList.1 hm));go_roundw
   case rel=>
    have hl1:(zs'++ [v']).length=zs'.length+1:=by simp
    refine⟨k+1,A2,a2,zs'++ [v'],by omega,by go_num,by rw[hl1],by rw[hl1,Hkl.out],?_,hBw2,k42,k82,?_⟩
    ·rw[hl1]
     simpa[words]using hO2
    ·refine hSt.map hw2 ?_ (fun _ _ _ _ _=>Iff.rfl)
     rintro M' ⟨hF,M,hP,hM⟩;exact(hP.more hM).snoc (by rw[Hkl.out];exact Hvk.out) hF
   case measure=>simp[intOf];omega
  ·have hdec:decide ((k:Int)<zs.length)=false:=by simp;omega
   have hdec':decide (k<zs.length)=false:=by simp;omega
   have Hke:=Lib.hid (show zs'.length=zs.length by have:=Hkl.out;omega);go_wp2_with fail;go_loopw [16] (fun s wr=> ∃(k:Nat),s= .int .i64 k∧wr.ownsRow w.heap.size 67 1 (.slice O zs'.length oc) zs'.length (words zs')∧But [gW,gF] w wr∧Blk wr b4 29 #[.int .i64 S0.sh,.slice (some ⟨gW,0,none⟩) S0.ws.length cW,.slice (some ⟨gF,0,none⟩) S0.fs.length cF]∧Blk wr b8 144 #[.int .i64 0,.int .i64 0,.int .i64 0,.int .i64 0,.int .i64 0]∧vq wr base w.heap.size g gW cW gF cF S0 B C R T0 D c li (scR k 0) (fun M=>k<=M.length∧jP (aos B C) zs zs' M)) (fun s _=>16385-(intOf s).toNat);case atStart=>exact⟨0,rfl,hO,hBw,k4,k8,hSt.map (fun _ _ _ _ _ _ h=>h) (fun M h=>⟨by omega,h⟩) (fun _ _ _ _ _=>Iff.rfl)⟩
   case round=>
    clear hO hBw k4 k8 hSt hszr;obtain⟨k,rfl,hO,hBw,k4,k8,hSt⟩:=hrel;have hszr:=hBw.size;rcases hSt with⟨S,T,mA,mc,M,hkM,hR,hkl,hF⟩|⟨S,T,mA,mc,M,hkM,h1,h2,h3⟩
    ·have hM16:=hR.mlen
     have cK:=hkM.k.cell;have lK:=hkM.k.lt;by_cases hlt:k<M.length
     ·have hdec:decide ((k:Int)<M.length)=true:=by simp;omega
      have hdec':decide (k<M.length)=true:=by simp;omega
      have hkI:(k:Int)<M.length:=by omega
      obtain⟨p,hp⟩: ∃p,M[k]? =some p:=⟨_,List.getElem?_eq_getElem hlt⟩;have hpm:=List.mem_of_getElem? hp;obtain⟨ob,hob1,e2⟩:=hR.new_ hpm;obtain⟨hpO,hpr,hpd,_⟩:=hR.cy.old p hpm;have hpO2:p.1∈aos B (T0::(R++C)):=qK (fun i hi=>List.mem_cons_of_mem _ (List.mem_append_right _ hi)) hpO;obtain⟨hr15,hd32,hhd⟩:=H0.out.head p.1 hpO2;have hbr:ob.r=p.1.r:=by rw[<-hpr,e2];rfl
      have hbd:ob.d=p.1.d:=by rw[<-hpd,e2];rfl
      rw[<-hbr]at hr15;rw[<-hbd]at hd32;obtain⟨t0,ht0⟩: ∃t0,p.2.f 0=t0:=⟨_,rfl⟩;have h00:zy T.x.c B ob.o=t0:=by rw[<-ht0,e2,yn (by unfold Ob.n;omega)];rfl
      have htl:t0<S.ws.length:=by rw[<-ht0,e2];exact(hR.lay.owner List.mem_cons_self hob1 (k:=0) (by unfold Ob.n;omega)).choose_spec.2.2.2.2
      have hh:S.ws[zy T.x.c B ob.o]? =some (hd ob.r ob.d):=by
       have h5:=hR.cy.newh p hpm;rw[hhd,ht0]at h5;rw[h00,List.getElem?_eq_getElem htl,hbr,hbd,<-h5];unfold Sp.w;rw[List.getD_eq_getElem?_getD,List.getElem?_eq_getElem htl];rfl
      obtain⟨F,hF0⟩: ∃F,xE T.x.c B ob.o ob.r=F:=⟨_,rfl⟩;have hob:ob.o+(ob.r+ob.d)<T.x.c.length*B:=by have:=hR.lay.in_ List.mem_cons_self hob1 (k:=ob.r+ob.d) (by unfold Ob.n;omega);exact this
      have hFl:F.length=ob.r:=by rw[<-hF0,vW]
      have HFr:=Lib.hid (show F.length=p.1.r by omega)
      have HFx:=Lib.hid (show∀j,j<F.length->F[j]? =some (p.2.f (1+j))∧p.2.f (1+j)<S0.ws.length∧j<p.1.r from fun j hj=>by
       have hjr:j<ob.r:=by omega
       have hjn:1+j<ob.n:=by unfold Ob.n;omega
       have hf:p.2.f (1+j)=zy T.x.c B (ob.o+(1+j)):=by rw[e2];exact yn hjn
       obtain⟨_,_,_,_,_,hlt⟩:=hR.lay.owner List.mem_cons_self hob1 hjn;rw[<-e2,hR.ln.1]at hlt;exact⟨by rw[<-hF0,hf];exact zcy hjr,hlt,by omega⟩)
      have Href:=Lib.hid (show∀j,j<p.1.r->Ptr (aos B (T0::(R++C))) (S0.w (p.1.f (1+j)))from fun j hj=>H0.out.refs p.1 hpO2 j hj);have hFb:F.length<=15:=by omega
      obtain⟨bM,oM,rfl,m0,m1⟩:=zqd (Rd.of_own hkM.m) hp;have lM:=zh m0;rw[ht0]at m1;have k4S:Blk wr b4 29 #[.int .i64 S.sh,.slice (some ⟨gW,0,none⟩) S.ws.length cW,.slice (some ⟨gF,0,none⟩) S.fs.length cF]:=by rw[hR.ln.1,hR.ln.2.1,hR.ln.2.2];exact k4
      have c4:=k4S.cell;have l4:=k4S.lt;have HRl:=Lib.hid hR.lay;have Ht0:=Lib.hid h00;have HF:=Lib.hid hF0;have Hh:=Lib.hid hh;have Hp:=Lib.hid hp;have HR0:=Lib.hid hR;have HFw:=Lib.hid hF;clear hR hF hp hpm hob1 e2 hpO hpr hpd hpO2 hhd hbr hbd ht0 h00 htl hh hF0 hFl;go_wp2_with fail;refine jRE [(true,0),(true,1),(true,2),(true,3),(true,4),(true,5),(true,6),(true,7),(true,8),(false,9),(true,10),(true,11),(true,12),(true,13),(true,14)] Tryz.mixed fun hx=> ?_
      repeat(first
       |refine jLE hx ?_
       |refine jLS ?_
       |(refine yo hx (fun K hK=> ?_);go_simp;go_at_call 121;refine(zcz _ _ _ _ t0 S ((T::(R++C)).map (·.x)) T.x B ob.o ob.r ob.d _ (hkM.s.rd.ext jX) HRl.out.ch List.mem_cons_self HRl.out.pow hob hr15 hd32 Hh.out Ht0.out F HF.out).mono ?_;rintro e w1 ⟨FA,fc,rfl,hFo,hE1⟩;refine hK _ _ (hE1) ?_;clear hK hx;intro hx;refine jq ?_)
       |(refine yo hx (fun K hK=> ?_);go_simp;(first|refine hK _ _ jX ?_|refine hK undef _ jX ?_);clear hK hx;intro hx;try refine jq ?_))
      refine zH ?_;have hFo1:=zu (base':=w.heap.size) hFo hszr;have hEq:Ext wr w1:=by exact jX
      have hk1:=hkM.ext hEq;have hO1:=zm hO hEq;have k41:=k4.ext hEq;have k81:=k8.ext hEq;have hBw1:But [gW,gF] w w1:=hBw.trans (hEq.but _);clear cK lK c4 l4 k4S m0 m1 lM hO k4 k8 hBw hFo hkM hE1;obtain⟨we,hwe⟩: ∃we,we=w1:=⟨_,rfl⟩;subst hwe;go_wp2_with fail;go_loopw [70] (fun s wr=> ∃(j:Nat),j<=F.length∧s= .int .i64 j∧wr.ownsRow w.heap.size 3 1 (.slice FA F.length fc) F.length (yb (yB F))∧wr.ownsRow w.heap.size 67 1 (.slice O zs'.length oc) zs'.length (words zs')∧But [gW,gF] w wr∧Blk wr b4 29 #[.int .i64 S0.sh,.slice (some ⟨gW,0,none⟩) S0.ws.length cW,.slice (some ⟨gF,0,none⟩) S0.fs.length cF]∧Blk wr b8 144 #[.int .i64 0,.int .i64 0,.int .i64 0,.int .i64 0,.int .i64 0]∧vq wr base w.heap.size g gW cW gF cF S0 B C R T0 D c li (scR k j) (fun M'=>M'[k]? =some p∧jP (aos B C) zs zs' M')) (fun s _=>F.length-(intOf s).toNat);case atStart=>exact⟨0,by omega,rfl,hFo1,hO1,hBw1,k41,k81,.inl ⟨S,T,_,mc,M,hk1,HR0.out,Hp.out,HFw.out⟩⟩
      case round=>
       clear hFo1 hO1 hBw1 k41 k81 hk1 hEq;obtain⟨j,hj,rfl,hFo,hO,hBw,k4,k8,hSt⟩:=hrel;have hszr:=hBw.size;have c4:=k4.cell;have l4:=k4.lt;by_cases hjl:j<F.length
       ·have hjec:decide ((j:Int)<F.length)=true:=by simp;omega
        have hjec':decide (j<F.length)=true:=by simp;omega
        have hjI:(j:Int)<F.length:=by omega
        obtain⟨hFj,hxl,hjr⟩:=HFx.out j hjl;obtain⟨x,hx0⟩: ∃x,p.2.f (1+j)=x:=⟨_,rfl⟩;rw[hx0]at hFj hxl;obtain⟨bL,oL,rfl,z0⟩:=vn (Rd.of_own hFo) (jM hFj);have lL:=zh z0;have Hx0:=Lib.hid hx0;have xI:(x:Int)<S0.ws.length:=by omega
        clear hFj hx0;rcases hSt with⟨S,T,mA,mc,M,hkM,hR,hpM,hF⟩|⟨S,T,mA,mc,M,hkM,h1,h2,h3⟩
        ·have hM16:=hR.mlen
         obtain⟨v,hxv⟩: ∃v,S.ws[x]? =some v:=⟨_,List.getElem?_eq_getElem (by rw[hR.ln.1];exact hxl)⟩
         have Hv0:=Lib.hid (show v=S0.w (p.1.f (1+j)) by
          have h5:=(hR.cy.newr k p hpM j hjr).2 (by unfold scR;omega);rw[<-h5,Hx0.out];unfold Sp.w;rw[List.getD_eq_getElem?_getD,hxv];rfl)
         have Hpt:=Lib.hid (show Ptr (aos B (T0::(R++C))) v by rw[Hv0.out];exact Href.out j hjr);have hkl2:=(List.getElem?_eq_some_iff.1 hpM).1;have Hsc:=Lib.hid (show∀e,¬scR k j M.length e from fun e=>by unfold scR;omega);have HR:=Lib.hid hR;have HpM:=Lib.hid hpM;have HF2:=Lib.hid hF;have zv:=(zz hkM.s.W).1 x _ (xV hxv);have lv:=zh zv;have hb4S:=hkM.box_ k4 (by decide) hb4s h4g;have hgWS:gW∈mvS g gW gF mA M.length mc:=by simp[mvS]
         clear hR hpM hF hxv;go_wp2_with fail;refine zn (wr.heap.size) (mvS g gW gF mA M.length mc) (.take 0 (.take 1 (.take 2 (.take 3 (.take 4 (.take 5 (.take 6 (.take 7 (.alt 8 (.alt 9 (.take 10 (.alt 11 .done .none)) .none) .none))))))))) Tryz.mixed (by kernel_rfl) ?_;intro hx;iterate 8 (first|refine jTN hx ?_|refine jTS ?_)
         refine jCN hx (fun K hK=> ?_);go_simp;first|refine hK _ _ jN ?_|refine hK undef _ jN ?_
         clear hK hx;intro hx;refine jp ?_;refine jCN hx (fun K hK=> ?_);go_simp;go_at_call 120;refine(zmf (v:=v) (hkM.ext jX) (by(first|omega|(simp;done)|(simp;omega))) hn (by omega) HR.out H0.out HL.out (fun e=>Hsc.out e) Hpt.out).mono ?_;rintro e w1 ⟨v',rfl,hBM,hMS⟩;obtain⟨⟨zx,hzx⟩,hfz⟩:=hMS.cell HR.out.ln.1 (x:=x) (by have:=HR.out.ln.1;omega);have lx:=zh hzx;refine hK _ _ ((hBM).bel _) ?_;clear hK hx;intro hx;refine jp ?_;first|refine jTN hx ?_|refine jTS ?_
         refine yl hx (fun K hK=> ?_);go_simp;refine hK _ ((Bel.setIn (Bel.refl _ _ _) hgWS _)) ?_;clear hK hx;intro hx;refine zi ?_;go_wp2;go_roundw
         case rel=>
          have hfr:=(hkM.ext (Ext.drew (Ext.refl _))).fr hBM;have hh:=hkM.h;have hBg:But [gW] w1 (w1.setCell ⟨gW,x,none⟩ (.int .u64 v')):=But.setCell (But.refl _ _) (by simp) _;have hF1:=hfr.int _ _ _ (y5 hFo);have hO1:=hfr.out _ _ _ (y5 hO)
          have hF2:=zo hF1 hBg (fun b hb hm=>by
           have:=(World.ownsRow.lt hF1 b hb).1;have:=List.mem_singleton.1 hm;omega)
          have hO2:=zo hO1 hBg (fun b hb hm=>by
           have:=(World.ownsRow.lt hO1 b hb).1;have:=List.mem_singleton.1 hm;omega)
          have k41:=(hfr.box _ _ _ k4.drew (by decide) hb4s h4g).but hBg (by simp;omega);have k81:=(hfr.box _ _ _ k8.drew (by decide) hb8s h8g).but hBg (by simp;omega);have hB1:But [gW,gF] w (w1.setCell ⟨gW,x,none⟩ (.int .u64 v')):=But.setCell (hfr.but w rfl hBw.drew) (by simp) _;have hst:=zpa hMS HpM.out hjr Hv0.out HR.out.ln HF2.out;rw[Hx0.out]at hst;exact⟨j+1,by omega,by go_num,hF2,hO2,hB1,k41,k81,hst⟩
         case measure=>simp[intOf];omega
        ·obtain⟨v,hxv⟩: ∃v,S.ws[x]? =some v:=⟨_,List.getElem?_eq_getElem (by rw[h1];exact hxl)⟩
         have H1:=Lib.hid h1;have H2:=Lib.hid h2;have H3:=Lib.hid h3;have zv:=(zz hkM.s.W).1 x _ (xV hxv);have lv:=zh zv;have hxS:x<S.ws.length:=by omega
         have hb4S:=hkM.box_ k4 (by decide) hb4s h4g;have hgWS:gW∈mvS g gW gF mA M.length mc:=by simp[mvS]
         clear h1 h2 h3 hxv;go_wp2_with fail;refine zn (wr.heap.size) (mvS g gW gF mA M.length mc) (.take 0 (.take 1 (.take 2 (.take 3 (.take 4 (.take 5 (.take 6 (.take 7 (.alt 8 (.alt 9 (.take 10 (.alt 11 .done .none)) .none) .none))))))))) Tryz.mixed (by kernel_rfl) ?_;intro hx;iterate 8 (first|refine jTN hx ?_|refine jTS ?_)
         refine jCN hx (fun K hK=> ?_);go_simp;first|refine hK _ _ jN ?_|refine hK undef _ jN ?_
         clear hK hx;intro hx;refine jp ?_;refine jCN hx (fun K hK=> ?_);go_simp;go_at_call 120;refine(zfd base w.heap.size g gW cW gF cF S D c li T mA mc M 4 v _ (hkM.ext jX) (by decide)).mono ?_;rintro e w1 ⟨rfl,hEE⟩;obtain⟨⟨zx,hzx⟩,hfz⟩:=kl (hkM.s.ext (show Ext wr w1 by exact jX)) (x:=x) (by omega);have lx:=zh hzx;refine hK _ _ ((hEE).bel _) ?_;clear hK hx;intro hx;refine jp ?_;first|refine jTN hx ?_|refine jTS ?_
         refine yl hx (fun K hK=> ?_);go_simp;refine hK _ ((Bel.setIn (Bel.refl _ _ _) hgWS _)) ?_;clear hK hx;intro hx;refine zi ?_;go_wp2;go_roundw
         case rel=>
          have hfr:=(hkM.ext (Ext.drew (Ext.refl _))).fr (hEE.but _);have hh:=hkM.h;have hBg:But [gW] w1 (w1.setCell ⟨gW,x,none⟩ (.int .u64 v)):=But.setCell (But.refl _ _) (by simp) _;have hF1:=hfr.int _ _ _ (y5 hFo);have hO1:=hfr.out _ _ _ (y5 hO)
          have hF2:=zo hF1 hBg (fun b hb hm=>by
           have:=(World.ownsRow.lt hF1 b hb).1;have:=List.mem_singleton.1 hm;omega)
          have hO2:=zo hO1 hBg (fun b hb hm=>by
           have:=(World.ownsRow.lt hO1 b hb).1;have:=List.mem_singleton.1 hm;omega)
          have k41:=(hfr.box _ _ _ k4.drew (by decide) hb4s h4g).but hBg (by simp;omega);have k81:=(hfr.box _ _ _ k8.drew (by decide) hb8s h8g).but hBg (by simp;omega);have hB1:But [gW,gF] w (w1.setCell ⟨gW,x,none⟩ (.int .u64 v)):=But.setCell (hfr.but w rfl hBw.drew) (by simp) _;have hst:vq (w1.setCell ⟨gW,x,none⟩ (.int .u64 v)) base w.heap.size g gW cW gF cF S0 B C R T0 D c li (scR k (j+1)) (fun M'=>M'[k]? =some p∧jP (aos B C) zs zs' M'):= .inr ⟨_,T,mA,mc,M,((hkM.ext (Ext.drew (Ext.refl _))).ext hEE).store x v,by simpa using H1.out,H2.out,H3.out⟩;exact⟨j+1,by omega,by go_num,hF2,hO2,hB1,k41,k81,hst⟩
         case measure=>simp[intOf];omega
       ·have hjec:decide ((j:Int)<F.length)=false:=by simp;omega
        have hjec':decide (j<F.length)=false:=by simp;omega
        have hst:vq wr base w.heap.size g gW cW gF cF S0 B C R T0 D c li (scR (k+1) 0) (fun M=>k+1<=M.length∧jP (aos B C) zs zs' M):=hSt.map2 (fun M h=>⟨(List.getElem?_eq_some_iff.1 h.1).1,h.2⟩) (fun M h i q hq e he=>by
         unfold scR;by_cases hik:i=k
         ·subst hik
          rw[h.1]at hq;injection hq with hq;subst hq;have:=HFr.out;omega
         ·omega)
        go_wp2_with fail;go_roundw;case rel=>exact⟨k+1,by go_num,hO,hBw,k4,k8,hst⟩
        case measure=>simp[intOf];omega
     ·have hdec:decide ((k:Int)<M.length)=false:=by simp;omega
      have hdec':decide (k<M.length)=false:=by simp;omega
      go_wp2_with fail;have Hkm:=Lib.hid (show k=M.length by omega);have c8:=k8.cell;have f8:=k8.froz;have l8:=k8.lt;have hg8: ¬g=b8:=fun e=>h8g e.symm
      have hh:=hkM.h;refine jRB [b8] [(true,0),(true,1),(true,2),(true,3),(true,4),(true,5),(true,6),(true,7),(true,8),(true,9),(true,10),(true,11),(true,12),(false,13),(true,14),(true,15),(true,16)] Tryz.mixed fun hx hy=> ?_
      repeat(first
       |refine jLB hx ?_
       |refine jLS ?_
       |(refine yP hx (fun K hK=> ?_);go_simp;(first|refine hK _ _ jB ?_|refine hK undef _ jB ?_);clear hK hx;intro hx;try refine jq ?_)
       |(refine yP hx (fun K hK=> ?_);have hcy:=Ext.cell hy;have hfy:=Ext.froz hy;go_simp;(first|refine hK _ _ jB ?_|refine hK undef _ jB ?_);clear hK hx;intro hx;try refine jq ?_))
      refine zH ?_;go_wp2;have k8':=(((((k8.set_ 0 (.int .i64 T.x.q)).set_ 1 (.int .i64 T.x.b)).set_ 2 (.int .i64 (yz T.x.c 0))).set_ 3 (.int .i64 (yp T.x.c))).set_ 4 (.int .i64 T.wd)).drew;have hB8:But [b8] wr ((((((wr.setCell ⟨b8,0,none⟩ (.int .i64 T.x.q)).setCell ⟨b8,1,none⟩ (.int .i64 T.x.b)).setCell ⟨b8,2,none⟩ (.int .i64 (yz T.x.c 0))).setCell ⟨b8,3,none⟩ (.int .i64 (yp T.x.c))).setCell ⟨b8,4,none⟩ (.int .i64 T.wd)).drew):=y8 (zY (hx.bel wr.heap.size));clear hx hy c8 f8 l8 cK lK;generalize(((((wr.setCell ⟨b8,0,none⟩ (.int .i64 T.x.q)).setCell ⟨b8,1,none⟩ (.int .i64 T.x.b)).setCell ⟨b8,2,none⟩ (.int .i64 (yz T.x.c 0))).setCell ⟨b8,3,none⟩ (.int .i64 (yp T.x.c))).setCell ⟨b8,4,none⟩ (.int .i64 T.wd)).drew=wx at*;refine zd2 rfl rfl rfl rfl rfl k8' ?_
      exact⟨S,T,mA,mc,M,O,oc,zs',0,rfl,hkM.s.but hB8 (by simp;omega) (by simp;omega),zo hkM.m hB8 (fun b hb hm=>by
       have:=List.mem_singleton.1 hm;subst this;exact zN hkM.m k8 (by decide) hb),zo hO hB8 (fun b hb hm=>by
       have:=List.mem_singleton.1 hm;subst this;exact zN hO k8 (by decide) hb),zd1 hBw hB8 hb8s,.inl ⟨rfl,Hke.out,by rw[<-Hkm.out];exact hR,hF⟩⟩
    ·have cK:=hkM.k.cell
     have lK:=hkM.k.lt;by_cases hlt:k<M.length
     ·have hdec:decide ((k:Int)<M.length)=true:=by simp;omega
      have hdec':decide (k<M.length)=true:=by simp;omega
      go_wp2_with fail;have c8:=k8.cell;have f8:=k8.froz;have l8:=k8.lt;have hg8: ¬g=b8:=fun e=>h8g e.symm
      have hh:=hkM.h;refine jRB [b8] [(true,0),(true,1),(true,2),(true,3),(true,4),(true,5),(true,6),(true,7),(true,8),(true,9),(true,10),(true,11),(true,12),(false,13),(true,14),(true,15),(true,16)] Tryz.mixed fun hx hy=> ?_
      repeat(first
       |refine jLB hx ?_
       |refine jLS ?_
       |(refine yP hx (fun K hK=> ?_);go_simp;(first|refine hK _ _ jB ?_|refine hK undef _ jB ?_);clear hK hx;intro hx;try refine jq ?_)
       |(refine yP hx (fun K hK=> ?_);have hcy:=Ext.cell hy;have hfy:=Ext.froz hy;go_simp;(first|refine hK _ _ jB ?_|refine hK undef _ jB ?_);clear hK hx;intro hx;try refine jq ?_))
      refine zH ?_;go_wp2;have k8':=(((((k8.set_ 0 (.int .i64 T.x.q)).set_ 1 (.int .i64 T.x.b)).set_ 2 (.int .i64 (yz T.x.c 0))).set_ 3 (.int .i64 (yp T.x.c))).set_ 4 (.int .i64 T.wd)).drew;have hB8:But [b8] wr ((((((wr.setCell ⟨b8,0,none⟩ (.int .i64 T.x.q)).setCell ⟨b8,1,none⟩ (.int .i64 T.x.b)).setCell ⟨b8,2,none⟩ (.int .i64 (yz T.x.c 0))).setCell ⟨b8,3,none⟩ (.int .i64 (yp T.x.c))).setCell ⟨b8,4,none⟩ (.int .i64 T.wd)).drew):=y8 (zY (hx.bel wr.heap.size));clear hx hy c8 f8 l8 cK lK;generalize(((((wr.setCell ⟨b8,0,none⟩ (.int .i64 T.x.q)).setCell ⟨b8,1,none⟩ (.int .i64 T.x.b)).setCell ⟨b8,2,none⟩ (.int .i64 (yz T.x.c 0))).setCell ⟨b8,3,none⟩ (.int .i64 (yp T.x.c))).setCell ⟨b8,4,none⟩ (.int .i64 T.wd)).drew=wx at*;refine zd2 rfl rfl rfl rfl rfl k8' ?_
      exact⟨S,T,mA,mc,M,O,oc,zs',4,rfl,hkM.s.but hB8 (by simp;omega) (by simp;omega),zo hkM.m hB8 (fun b hb hm=>by
       have:=List.mem_singleton.1 hm;subst this;exact zN hkM.m k8 (by decide) hb),zo hO hB8 (fun b hb hm=>by
       have:=List.mem_singleton.1 hm;subst this;exact zN hO k8 (by decide) hb),zd1 hBw hB8 hb8s,.inr rfl⟩
     ·have hdec:decide ((k:Int)<M.length)=false:=by simp;omega
      have hdec':decide (k<M.length)=false:=by simp;omega
      go_wp2_with fail;have c8:=k8.cell;have f8:=k8.froz;have l8:=k8.lt;have hg8: ¬g=b8:=fun e=>h8g e.symm
      have hh:=hkM.h;refine jRB [b8] [(true,0),(true,1),(true,2),(true,3),(true,4),(true,5),(true,6),(true,7),(true,8),(true,9),(true,10),(true,11),(true,12),(false,13),(true,14),(true,15),(true,16)] Tryz.mixed fun hx hy=> ?_
      repeat(first
       |refine jLB hx ?_
       |refine jLS ?_
       |(refine yP hx (fun K hK=> ?_);go_simp;(first|refine hK _ _ jB ?_|refine hK undef _ jB ?_);clear hK hx;intro hx;try refine jq ?_)
       |(refine yP hx (fun K hK=> ?_);have hcy:=Ext.cell hy;have hfy:=Ext.froz hy;go_simp;(first|refine hK _ _ jB ?_|refine hK undef _ jB ?_);clear hK hx;intro hx;try refine jq ?_))
      refine zH ?_;go_wp2;have k8':=(((((k8.set_ 0 (.int .i64 T.x.q)).set_ 1 (.int .i64 T.x.b)).set_ 2 (.int .i64 (yz T.x.c 0))).set_ 3 (.int .i64 (yp T.x.c))).set_ 4 (.int .i64 T.wd)).drew;have hB8:But [b8] wr ((((((wr.setCell ⟨b8,0,none⟩ (.int .i64 T.x.q)).setCell ⟨b8,1,none⟩ (.int .i64 T.x.b)).setCell ⟨b8,2,none⟩ (.int .i64 (yz T.x.c 0))).setCell ⟨b8,3,none⟩ (.int .i64 (yp T.x.c))).setCell ⟨b8,4,none⟩ (.int .i64 T.wd)).drew):=y8 (zY (hx.bel wr.heap.size));clear hx hy c8 f8 l8 cK lK;generalize(((((wr.setCell ⟨b8,0,none⟩ (.int .i64 T.x.q)).setCell ⟨b8,1,none⟩ (.int .i64 T.x.b)).setCell ⟨b8,2,none⟩ (.int .i64 (yz T.x.c 0))).setCell ⟨b8,3,none⟩ (.int .i64 (yp T.x.c))).setCell ⟨b8,4,none⟩ (.int .i64 T.wd)).drew=wx at*;refine zd2 rfl rfl rfl rfl rfl k8' ?_
      exact⟨S,T,mA,mc,M,O,oc,zs',4,rfl,hkM.s.but hB8 (by simp;omega) (by simp;omega),zo hkM.m hB8 (fun b hb hm=>by
       have:=List.mem_singleton.1 hm;subst this;exact zN hkM.m k8 (by decide) hb),zo hO hB8 (fun b hb hm=>by
       have:=List.mem_singleton.1 hm;subst this;exact zN hO k8 (by decide) hb),zd1 hBw hB8 hb8s,.inr rfl⟩
end Go.Proofs.YtopcdfbplknmlaaGreat
