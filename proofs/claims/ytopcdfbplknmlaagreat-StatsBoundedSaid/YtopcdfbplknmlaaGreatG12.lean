/- The walk of condemn.Choose (reference). Conditions: the ranges that each theorem states. -/
import Derived.Test.YtopcdfbplknmlaaGreatL
import Derived.Test.YtopcdfbplknmlaaGreatG11
import Derived.Deep.CutBlock
set_option linter.all false
set_option maxHeartbeats 4000000
set_option maxRecDepth 100000
namespace Go.Proofs.YtopcdfbplknmlaaGreat
open Go.RowKit Go.Draw
theorem zpg{P:Program}{c:Code}{Q:Exit->Act->World->Prop}{a:Act}{w:World}{c1 c2 c3 c4:Array Value}{t1 t2 t3 t4:TypeId}
 (h: ∀W,Blk W w.heap.size t1 c1->Blk W (w.heap.size+1) t2 c2->Blk W (w.heap.size+1+1) t3 c3->Blk W (w.heap.size+1+1+1) t4 c4->Ext w W->c.wp P Q a W):c.wp P Q a ((((w.alloc (.cells c1 t1)).alloc (.cells c2 t2)).alloc (.cells c3 t3)).alloc (.cells c4 t4)):=
 h _ (Blk.alloc (Blk.alloc (Blk.alloc (Blk.new rfl) _) _) _) (Blk.alloc (Blk.alloc (Blk.new (by simp)) _) _) (Blk.alloc (Blk.new (by simp)) _) (Blk.new (by simp)) (Ext.alloc (Ext.alloc (Ext.alloc (Ext.alloc (Ext.refl w) _) _) _) _)
def zkd(w:World)(Q:List (List Inc))(nb0:Nat)(bg0:Bool)(ls0:Int)(r:Ending)(w':World):Prop:=
 ∃(A:Option Addr) (c:Nat) (out:List Inc) (nb:Nat) (bg:Bool) (ls:Int) (e:Bool),r= .returned (.tuple #[.slice A out.length c,.agg #[.int .i64 nb,.bool bg,.int .i64 ls],.bool e])
  ∧w'.ownsRow w.heap.size 144 5 (.slice A out.length c) out.length (zQ out)∧Ext w w'∧nb<Q.length∧(bg=true↔nb+1=Q.length)∧(bg0=true->nb=nb0∧ls=ls0)
  ∧(bg0=false->bg=true->(∀q,Q[nb]? =some q-> ∀i∈q,i.q<=ls)∧(ls= -1∨∃q∈Q,∃y∈q,ls=y.q))∧(∀i∈out,∃q,Q[nb]? =some q∧i∈q∧(bg=true->i.q<=ls))∧(∀q,Q[nb]? =some q->out.length<=q.length)
theorem ja{Q:Ending->World->Prop}{a:Act}{W:World}{g9:Nat}{v0 v1 v2 t8 t10:Value}(hd:a.defers= [])(h8:a.tmps[8]?.getD undef=t8)(h9:a.tmps[9]?.getD undef= .pointer (some ⟨g9,0,none⟩))(h10:a.tmps[10]?.getD undef=t10)
 (k9:Blk W g9 171 #[v0,v1,v2]) (hQ:Q (.returned (.tuple #[t8,.agg #[v0,v1,v2],t10])) W):bodyPost Tryz.prog Tryz.f95 Q Exit.ret a W:=by
 have c1:=k9.cell;exact bodyPost_ret (v:= .tuple #[t8,.agg #[v0,v1,v2],t10]) (by simp[results,Tryz.results95,go_sem,h8,h9,h10,c1]) hd hQ
theorem zmx(A B:Option Addr)(a b:Nat)(S:Sp)(w:World)(h:SRd w S A B)(h4:S.fs.length<=64):
 Calls Tryz.prog 92 #[.agg #[.int .i64 S.sh,.slice A S.ws.length a,.slice B S.fs.length b]] w (zqf w):=by
 refine(qT A B a b S w h h4).mono ?_;rintro e w1 ⟨A,c,rfl,_,hE⟩;exact⟨⟨_,_,_,rfl⟩,hE⟩
theorem zfu(A Bf:Option Addr)(a b:Nat)(S:Sp)(i:Inc)(w:World)(h1:3<=S.sh∧S.sh<=8)(hi: ∃(x:Ch) (wd:Nat),i=ke (x,wd)∧wd<=100000):
 Calls Tryz.prog 105 #[.agg #[.int .i64 S.sh,.slice A S.ws.length a,.slice Bf S.fs.length b],.agg #[.int .i64 i.q,.int .i64 i.b,.int .i64 i.f,.int .i64 i.l,.int .i64 i.w]] w (zfk w):=by
 obtain⟨x,wd,rfl,hwd⟩:=hi;exact zfs A Bf a b S x wd w h1 hwd
theorem zhc(Ac A0 Bf A:Option Addr)(cc a b c nb0:Nat)(bg0:Bool)(ls0:Int)(C:Cfg)(S:Sp)(vs:List Value)(Q:List (List Inc))(w:World)(hA:Rd w Ac C.l.length 4 (y2 C.l))(hC:C.Ok)(hS:SRd w S A0 Bf)(h4:S.fs.length<=64)(hsh:3<=S.sh∧S.sh<=8)(h:BO w 0 A c vs Q)(hQ:Q.length=C.l.length)(hm: ∀q∈Q,q.length<=10000)(hw: ∀q∈Q,∀i∈q,∃(x:Ch) (wd:Nat),i=ke (x,wd)∧wd<=100000)
 (hasc: ∀q∈Q,∀y,q.getLast? =some y-> ∀i∈q,i.q<=y.q) (hnb:nb0<Q.length) (hbg:bg0=true->nb0+1=Q.length):
 Calls Tryz.prog 95 #[.agg #[.string C.s,.slice Ac C.l.length cc,.int .i64 C.f],.agg #[.int .i64 S.sh,.slice A0 S.ws.length a,.slice Bf S.fs.length b],.slice A Q.length c,.agg #[.int .i64 nb0,.bool bg0,.int .i64 ls0]] w (zkd w Q nb0 bg0 ls0):=by
 have Hm:=Lib.hid hm;have Hw:=Lib.hid hw;have Hasc:=Lib.hid hasc;have Hbg:=Lib.hid hbg;have HC:=Lib.hid hC;have hC4:=hC.good.2.2.1;have HQ:=Lib.hid hQ;have hQ4:Q.length<=4:=by omega
 have hQ1:1<=Q.length:=by omega
 clear hm hC hQ hw hasc hbg;go_enter Tryz.func95,Tryz.ntmps95;go_upto_region 1 with fail;refine zpg (fun W k4 k5 k7 k9 hE0=> ?_);obtain⟨b4,hb4⟩: ∃b,w.heap.size=b:=⟨_,rfl⟩;rw[hb4]at k4 k5 k7 k9|-;have Hb4:=Lib.hid hb4;clear hb4;obtain⟨b7,hb7⟩: ∃b,b4+1+1=b:=⟨_,rfl⟩;rw[hb7]at k7 k9|-;have Hb7:=Lib.hid hb7;clear hb7;go_upto_block 0 with fail;go_cut [] (fun wr=> ∃(nb:Nat) (bg:Bool) (ls:Int),nb<Q.length∧(nb=nb0∧bg=bg0∧ls=ls0∨bg=false∧bg0=false)∧Blk wr b7 171 #[.int .i64 nb,.bool bg,.int .i64 ls]∧But [b7] W wr)
 case first=>
  go_wp2_with fail;go_loopw [] (fun wr=> ∃(nb:Nat) (bg:Bool) (ls:Int),nb<Q.length∧(nb=nb0∧bg=bg0∧ls=ls0∨bg=false∧bg0=false)∧Blk wr b7 171 #[.int .i64 nb,.bool bg,.int .i64 ls]∧But [b7] W wr) (fun wr=>Q.length-(intOf ((wr.cell? ⟨b7,0,none⟩).getD undef)).toNat);case atStart=>exact⟨nb0,bg0,ls0,hnb,.inl ⟨rfl,rfl,rfl⟩,k7,But.refl _ _⟩
  case round=>
   clear k7;obtain⟨nb,bg,ls,hnbl,hst,k7,hB⟩:=hrel;have Hst:=Lib.hid hst;clear hst;have hb4:=Hb4.out;have hb7:=Hb7.out;have hEr:Ext w wr:=But.ext hE0 hB (fun q hq=>by have:=List.mem_singleton.1 hq;omega);have c7:=k7.cell;have l7:=k7.lt;have f7:=k7.froz;clear hb4 hb7;by_cases hlt:nb+1<Q.length
   ·have d1:decide ((nb:Int)<(Q.length:Int) -1)=true:=by simp;omega
    have hnI:(nb:Int)<Q.length:=by omega
    obtain⟨q,hq⟩: ∃q,Q[nb]? =some q:=⟨_,List.getElem?_eq_getElem hnbl⟩;obtain⟨gB,P,pc,rfl,_,e1,hq0o,_,lg⟩:=(h.ext hEr).at_ hq;by_cases hz:q.length=0
    ·rw[hz]at e1
     have Hz:=Lib.hid hz;clear hz
     have hb0:bg0=false:=by
      rcases Hst.out with⟨e1,_,_⟩|⟨_,h2⟩
      ·cases hh:bg0 with
       |false=>rfl
       |true=>exact absurd (Hbg.out hh) (by omega)
      ·exact h2
     have Hb0:=Lib.hid hb0;clear hb0;have k7n:=(((k7.set_ 0 (.int .i64 ((nb+1:Nat):Int))).set_ 1 (.bool false)).set_ 2 (.int .i64 0));have hBn:But [b7] W (((wr.setCell ⟨b7,0,none⟩ (.int .i64 ((nb+1:Nat):Int))).setCell ⟨b7,1,none⟩ (.bool false)).setCell ⟨b7,2,none⟩ (.int .i64 0)):=But.setCell (But.setCell (But.setCell hB (by simp) _) (by simp) _) (by simp) _;go_wp2_with fail;go_roundw;case rel=>exact⟨nb+1,false,0,by omega,.inr ⟨rfl,Hb0.out⟩,k7n,hBn⟩
     case measure=>
      have m1:=k7n.cell 0;have m2:=k7.cell 0;simp only[Int.natCast_add,Int.natCast_one]at m1;rw[m1,m2];simp[intOf];omega
    ·have hz':((q.length:Int)==0)=false:=by rw[beq_eq_false_iff_ne];omega
     have hz'':(q.length==0)=false:=by rw[beq_eq_false_iff_ne];omega
     clear hz;go_wp2_with fail;go_meet;exact⟨nb,bg,ls,hnbl,Hst.out,k7,hB⟩
   ·have d1:decide ((nb:Int)<(Q.length:Int) -1)=false:=by simp;omega
    go_wp2_with fail;go_meet;exact⟨nb,bg,ls,hnbl,Hst.out,k7,hB⟩
 case rest=>
  clear k7;obtain⟨nb,bg,ls,hnbl,hst,k7,hB⟩:=hcut;have Hst:=Lib.hid hst;clear hst
  have hEr:Ext w wc:=by
   have hb4:=Hb4.out;have hb7:=Hb7.out;exact But.ext hE0 hB (fun q hq=>by have:=List.mem_singleton.1 hq;omega)
  replace k4:=k4.but hB (by have hb7:=Hb7.out;simp;omega);replace k5:=k5.but hB (by have hb7:=Hb7.out;simp;omega);replace k9:=k9.but hB (by simp);clear hB hE0;obtain⟨wa,hwa⟩: ∃wa,wa=wc:=⟨_,rfl⟩;subst hwa;go_upto_region 4 with fail;go_cut [50] (fun s wx=>s= .bool (decide (nb+1=Q.length)&& !bg)∧wa=wx)
  case first=>
   have c7:=k7.cell;have l7:=k7.lt;by_cases hl:nb+1=Q.length
   ·have d1:((nb:Int)==(Q.length:Int) -1)=true:=by rw[beq_iff_eq];omega
    have d2:decide (nb+1=Q.length)=true:=by simpa using hl
    have Hd:=Lib.hid d2;clear hl d2;cases bg;all_goals go_wp2_with fail
    all_goals go_meet
    all_goals exact⟨by rw[Hd.out];rfl,rfl⟩
   ·have d1:((nb:Int)==(Q.length:Int) -1)=false:=by rw[beq_eq_false_iff_ne];omega
    have d2:decide (nb+1=Q.length)=false:=by simpa using hl
    have Hd:=Lib.hid d2;clear hl d2;go_wp2_with fail;go_meet;exact⟨by rw[Hd.out];rfl,rfl⟩
  case rest=>
   obtain⟨rfl,rfl⟩:=hcut;obtain⟨zb,hzb⟩: ∃zb,(decide (nb+1=Q.length)&& !bg)=zb:=⟨_,rfl⟩;rw[hzb];have Hzb:=Lib.hid hzb;clear hzb;go_upto_if 50 with fail;go_cut [12,13] (fun s12 s13 wx=> ∃(bg':Bool) (ls':Int),(bg'=true↔nb+1=Q.length)∧(bg0=true->nb=nb0∧ls'=ls0)∧(bg0=false->bg'=true->(∀q,Q[nb]? =some q-> ∀i∈q,i.q<=ls')∧(ls'= -1∨∃q∈Q,∃y∈q,ls'=y.q))∧Blk wx b4 25 #[.string C.s,.slice Ac C.l.length cc,.int .i64 C.f]∧Blk wx (b4+1) 29 #[.int .i64 S.sh,.slice A0 S.ws.length a,.slice Bf S.fs.length b]∧Blk wx b7 171 #[.int .i64 nb,.bool bg',.int .i64 ls']∧Blk wx (b7+1) 171 #[.int .i64 0,.bool false,.int .i64 0]∧Ext w wx)
   case first=>
    cases zb with
    |false=>
     go_wp2_with fail;go_meet;have hz:=Hzb.out;refine⟨bg,ls,⟨fun hb=> ?_,fun hb=> ?_⟩,fun hb=> ?_,fun hb hb'=> ?_,k4,k5,k7,k9,hEr⟩
     ·rcases Hst.out with⟨e1,e2,_⟩|⟨h1,_⟩
      ·have:=Hbg.out (e2▸hb);omega
      ·rw[h1]at hb;cases hb
     ·simp only[hb,decide_true,Bool.true_and]at hz
      simpa using hz
     ·rcases Hst.out with⟨e1,e2,e3⟩|⟨_,h2⟩
      ·exact⟨e1,e3⟩
      ·rw[h2]at hb;cases hb
     ·rcases Hst.out with⟨e1,e2,e3⟩|⟨h1,_⟩
      ·rw[e2,hb]at hb';cases hb'
      ·rw[h1]at hb';cases hb'
    |true=>
     have hz:=Hzb.out;simp only[Bool.and_eq_true,decide_eq_true_eq,Bool.not_eq_true']at hz;obtain⟨hl,rfl⟩:=hz
     have hb0:bg0=false:=by
      rcases Hst.out with⟨_,e2,_⟩|⟨_,h2⟩
      ·exact e2.symm
      ·exact h2
     have Hb0:=Lib.hid hb0;have Hl:=Lib.hid hl;have He:=Lib.hid (show(Q.length:Int) -1=(nb:Int) by omega);clear hb0 hl;have c7:=k7.cell;have l7:=k7.lt;have f7:=k7.froz;go_upto_region 6 with fail;clear c7 l7 f7;have k7':=(k7.set_ 1 (.bool true)).set_ 2 (.int .i64 (-1));have e1:But [b7] wa ((wa.setCell ⟨b7,1,none⟩ (.bool true)).setCell ⟨b7,2,none⟩ (.int .i64 (-1))):=But.setCell (But.setCell (But.refl _ _) (by simp) _) (by simp) _;generalize(wa.setCell ⟨b7,1,none⟩ (.bool true)).setCell ⟨b7,2,none⟩ (.int .i64 (-1))=wb at*
     have hEb:Ext w wb:=by
      have hb4:=Hb4.out;have hb7:=Hb7.out;exact But.ext hEr e1 (fun q hq=>by have:=List.mem_singleton.1 hq;omega)
     replace k4:=k4.but e1 (by have hb7:=Hb7.out;simp;omega);replace k5:=k5.but e1 (by have hb7:=Hb7.out;simp;omega);replace k9:=k9.but e1 (by simp);clear k7 e1 hEr;obtain⟨q,hq⟩: ∃q,Q[nb]? =some q:=⟨_,List.getElem?_eq_getElem hnbl⟩;have hY:=qM A c nb vs Q q wb (h.ext hEb) hq (Hm.out q (List.mem_of_getElem? hq));rw[<-He.out]at hY;have Hq:=Lib.hid hq;clear hq;go_wp2_with fail;go_at_call 87;refine hY.mono ?_;rintro e w1 ⟨he,hE1⟩;clear hY;replace k4:=k4.ext hE1;replace k5:=k5.ext hE1;replace k7':=k7'.ext hE1;replace k9:=k9.ext hE1;replace hEb:=hEb.trans hE1;clear hE1;rcases hlast:q.getLast? with _|y
     ·rw[hlast]at he
      subst he;have Hn:=Lib.hid (List.getLast?_eq_none_iff.1 hlast);clear hlast;simp only[zbs];go_wp2_with fail;go_meet;refine⟨true,-1,⟨fun _=>Hl.out,fun _=>rfl⟩,fun hb=>(by rw[Hb0.out]at hb;cases hb),fun _ _=>⟨fun q' hq' i hi=> ?_,.inl rfl⟩,k4.alloc _,k5.alloc _,k7'.alloc _,k9.alloc _,hEb.alloc _⟩;rw[Hq.out]at hq';injection hq' with hq';rw[<-hq',Hn.out]at hi;cases hi
     ·rw[hlast]at he
      subst he;have Hn:=Lib.hid hlast;clear hlast;simp only[zbs];have c7:=k7'.cell;have l7:=k7'.lt;have f7:=k7'.froz;have hb4:=Hb4.out;have hb7:=Hb7.out;go_wp2_with fail;go_meet;refine⟨true,y.q,⟨fun _=>Hl.out,fun _=>rfl⟩,fun hb=>(by rw[Hb0.out]at hb;cases hb),fun _ _=>⟨fun q' hq' i hi=> ?_,.inr ⟨q,List.mem_of_getElem? Hq.out,y,List.mem_of_getLast? Hn.out,rfl⟩⟩,(k4.far (by simp only;omega) _).alloc _,(k5.far (by simp only;omega) _).alloc _,(k7'.set_ 2 _).alloc _,(k9.far (by simp only;omega) _).alloc _,(Ext.setCell hEb (by simp only;omega) _).alloc _⟩;rw[Hq.out]at hq';injection hq' with hq';subst hq';exact Hasc.out q (List.mem_of_getElem? Hq.out) y Hn.out i hi
   case rest=>
    clear k4 k5 k7 k9 hEr;obtain⟨bg',ls',hiff,hold,hall,k4,k5,k7,k9,hEr⟩:=hcut;clear Hst Hzb;have Hiff:=Lib.hid hiff;have Hold:=Lib.hid hold;have Hall:=Lib.hid hall;clear hiff hold hall;obtain⟨W,hW⟩: ∃W,W=wc:=⟨_,rfl⟩;subst hW;obtain⟨q,hq⟩: ∃q,Q[nb]? =some q:=⟨_,List.getElem?_eq_getElem hnbl⟩;obtain⟨gB,P,pc,hAe,_,e1,hqo,_,lg⟩:=(h.ext hEr).at_ hq;subst hAe;have Hq:=Lib.hid hq;have hql:=Hm.out q (List.mem_of_getElem? hq);clear hq;have hnI:(nb:Int)<Q.length:=by omega
    have c7:=k7.cell;have l7:=k7.lt;go_wp2_with fail;clear c7 l7;go_loopw [14,69] (fun s i wr=> ∃(j:Nat) (D:Option Addr) (d:Nat) (out:List Inc),j<=q.length∧out.length<=j∧i= .int .i64 j∧s= .slice D out.length d∧wr.ownsRow W.heap.size 144 5 (.slice D out.length d) out.length (zQ out)∧(∀x∈out,x∈q∧(bg'=true->x.q<=ls'))∧Ext W wr) (fun _ i _=>q.length-(intOf i).toNat);case atStart=>exact⟨0,none,0,[],by omega,by simp,rfl,rfl,zP _ _ _ _,by simp,Ext.refl _⟩
    case round=>
     obtain⟨j,D,d,out,hj,hoj,rfl,rfl,hown,hin,hE⟩:=hrel;have Hin:=Lib.hid hin;clear hin;by_cases hjl:j<q.length
     ·have hjec:decide ((j:Int)<q.length)=true:=by simp;omega
      have hjec':decide (j<q.length)=true:=by simp;omega
      have hjI:(j:Int)<q.length:=by omega
      obtain⟨i,hi⟩: ∃i,q[j]? =some i:=⟨_,List.getElem?_eq_getElem hjl⟩;obtain⟨bD,oD,he,d0,d1,d2,d3,d4⟩:=xo (Rd.of_own (zm hqo hE)) hi;subst he;have lD:=zh d0;have Hi:=Lib.hid (List.mem_of_getElem? hi);clear hi;go_upto_region 13 with fail;refine yN (fun W12 k16 hE12=> ?_);obtain⟨b16,hb16⟩: ∃b,wr.heap.size=b:=⟨_,rfl⟩;rw[hb16]at k16|-;clear hb16 d0 d1 d2 d3 d4 lD;have hown2:=zm hown hE12;have hsz:=(hE.trans hE12).size_le;have k7r:=k7.ext (hE.trans hE12);have c7:=k7r.cell;have l7:=k7r.lt;have c16:=k16.cell;have l16:=k16.lt;by_cases hl:nb+1=Q.length
      ·have f1:decide ((nb:Int)<(Q.length:Int) -1)=false:=by simp;omega
       have Hbg':=Lib.hid (Hiff.out.2 hl);clear hl;by_cases hle:i.q<=ls'
       ·have f2:decide (i.q<=ls')=true:=by simpa using hle
        have Hle:=Lib.hid hle;clear hle;go_wp2_with(first|(at_builtin;refine zJ rfl Tryz.elN _ _ rfl W.heap.size _ _ _ rfl (z8 hown2 _) _ 1 1 _ rfl (yF _ [_,_,_,_,_] 144 1 5 rfl) (by simp[Value.oneCell']) (by omega) (by omega) (by(first|omega|(simp;done)|(simp;omega))) ?_;intro A2 a2 w2 hown3 hg2 hat2;have hE2:Ext W w2:=yy (Ext.alloc (hE.trans hE12) _) hg2 (z8 hown2 _) (by omega)));go_roundw
        case rel=>exact⟨j+1,A2,a2,out++ [i],by omega,by simp;omega,by go_num,by simp,by simpa[yC,zQ,Inc.a]using hown3,fun x hx=>by
         rcases List.mem_append.1 hx with hx|hx
         ·exact Hin.out x hx
         ·simp only[List.mem_singleton]at hx
          subst hx;exact⟨Hi.out,fun _=>Hle.out⟩,hE2⟩
        case measure=>simp[intOf];omega
       ·have f2:decide (i.q<=ls')=false:=by simpa using hle
        clear hle;go_wp2_with fail;go_roundw;case rel=>exact⟨j+1,D,d,out,by omega,by omega,by go_num,rfl,hown2,Hin.out,hE.trans hE12⟩
        case measure=>simp[intOf];omega
      ·have f1:decide ((nb:Int)<(Q.length:Int) -1)=true:=by simp;omega
       have Hnl:=Lib.hid hl;clear hl;go_wp2_with(first|(at_builtin;refine zJ rfl Tryz.elN _ _ rfl W.heap.size _ _ _ rfl (z8 hown2 _) _ 1 1 _ rfl (yF _ [_,_,_,_,_] 144 1 5 rfl) (by simp[Value.oneCell']) (by omega) (by omega) (by(first|omega|(simp;done)|(simp;omega))) ?_;intro A2 a2 w2 hown3 hg2 hat2;have hE2:Ext W w2:=yy (Ext.alloc (hE.trans hE12) _) hg2 (z8 hown2 _) (by omega)));go_roundw
       case rel=>exact⟨j+1,A2,a2,out++ [i],by omega,by simp;omega,by go_num,by simp,by simpa[yC,zQ,Inc.a]using hown3,fun x hx=>by
        rcases List.mem_append.1 hx with hx|hx
        ·exact Hin.out x hx
        ·simp only[List.mem_singleton]at hx
         subst hx;exact⟨Hi.out,fun hb=>absurd (Hiff.out.1 hb) Hnl.out⟩,hE2⟩
       case measure=>simp[intOf];omega
     ·have hjec:decide ((j:Int)<q.length)=false:=by simp;omega
      have hjec':decide (j<q.length)=false:=by simp;omega
      have k4r:=k4.ext hE;have k5r:=k5.ext hE;have k7r:=k7.ext hE;have k9r:=k9.ext hE;have hzz:=(hEr.trans hE).size_le;have hb4:=Hb4.out;have hb7:=Hb7.out;obtain⟨b9,hb9⟩: ∃b,b7+1=b:=⟨_,rfl⟩;rw[hb9]at k9r|-;have hn9: ¬b7=b9:=by omega
      have hw9:w.heap.size<=b9:=by omega
      have hWsz:=hEr.size_le;clear hb4 hb7 hb9;by_cases hz:out.length=0
      ·have hz1:((out.length:Int)==0)=true:=by rw[beq_iff_eq];omega
       have Hz:=Lib.hid hz;clear hz;go_upto_region 17 with fail;have c7:=k7r.cell;have l7:=k7r.lt;have c9:=k9r.cell;have l9:=k9r.lt;have f9:=k9r.froz;refine jRB [b9] [(true,0),(true,1),(false,2),(true,3)] Tryz.mixed fun hx hy=> ?_
       repeat(first
        |refine jLB hx ?_
        |refine jLS ?_
        |(refine yP hx (fun K hK=> ?_);go_simp;(first|refine hK _ _ jB ?_|refine hK undef _ jB ?_);clear hK hx;intro hx;try refine jq ?_)
        |(refine yP hx (fun K hK=> ?_);have hcy:=Ext.cell hy;have hfy:=Ext.froz hy;go_simp;(first|refine hK _ _ jB ?_|refine hK undef _ jB ?_);clear hK hx;intro hx;try refine jq ?_))
       refine zH ?_;go_wp2_with fail;refine ja rfl rfl rfl rfl (((k9r.set_ 0 _).set_ 1 _).set_ 2 _).drew ⟨none,0,[],nb,bg',ls',true,rfl,zP _ _ _ _,Ext.drew (Ext.setCell (Ext.setCell (Ext.setCell (hEr.trans hE) hw9 _) hw9 _) hw9 _),hnbl,Hiff.out,Hold.out,Hall.out,by simp,by simp⟩
      ·have hz1:((out.length:Int)==0)=false:=by rw[beq_eq_false_iff_ne];omega
       clear hz;go_upto_region 19 with fail;have hnC:nb<C.l.length:=by have:=HQ.out;omega
       have hnCI:(nb:Int)<C.l.length:=by omega
       obtain⟨r,hr⟩: ∃r,C.l[nb]? =some r:=⟨_,List.getElem?_eq_getElem hnC⟩;obtain⟨br,o_,hAe,r0,r1,r2,r3⟩:=qN (hA.ext (hEr.trans hE)) hr hnC;subst hAe;have lr:=zh r2;obtain⟨bat,hbat⟩: ∃bat,r.2.2.1=bat:=⟨_,rfl⟩;rw[hbat]at r2;clear hbat hr r0 r1 r3;have c4:=k4r.cell;have l4:=k4r.lt;have c5:=k5r.cell;have l5:=k5r.lt;have c7:=k7r.cell;have l7:=k7r.lt;refine jRE [(true,0),(true,3),(true,4),(true,5),(true,6),(true,7),(true,8),(true,9),(false,1),(true,2),(true,10),(true,11)] Tryz.mixed fun hx=> ?_
       repeat(first
        |refine jLE hx ?_
        |refine jLS ?_
        |(refine yo hx (fun K hK=> ?_);go_simp;go_at_call 92;refine(zmx A0 Bf a b S _ (hS.ext jX) h4).mono ?_;rintro e w1 ⟨⟨Af,nf,cf,rfl⟩,hE5⟩;refine hK _ _ (hE5) ?_;clear hK hx;intro hx;refine jq ?_)
        |(refine yo hx (fun K hK=> ?_);go_simp;(first|refine hK _ _ jX ?_|refine hK undef _ jX ?_);clear hK hx;intro hx;try refine jq ?_))
       refine zH ?_;have hE7:Ext wr w1:=by exact jX
       have hown1:=zm hown hE7;clear c4 l4 c5 l5 c7 l7 r2 lr hx hE5;go_wp2_with fail;go_loopw [17,18,105] (fun s t i wq=> ∃(m:Nat) (D2:Option Addr) (d2:Nat) (out2:List Inc) (z:Int),m<=out.length∧out2.length<=m∧i= .int .i64 m∧s= .slice D2 out2.length d2∧t= .int .i64 z∧wq.ownsRow w1.heap.size 144 5 (.slice D2 out2.length d2) out2.length (zQ out2)∧(∀x∈out2,x∈out)∧Ext w1 wq) (fun _ _ i _=>out.length-(intOf i).toNat);case atStart=>exact⟨0,none,0,[],_,by omega,by simp,rfl,rfl,rfl,zP _ _ _ _,by simp,Ext.refl _⟩
       case round=>
        obtain⟨m,D2,d2,out2,z,hm2,hom,rfl,rfl,rfl,hownq,hin2,hEq⟩:=hrel;have Hin2:=Lib.hid hin2;clear hin2;by_cases hml:m<out.length
        ·have hmec:decide ((m:Int)<out.length)=true:=by simp;omega
         have hmec':decide (m<out.length)=true:=by simp;omega
         have hmI:(m:Int)<out.length:=by omega
         obtain⟨i,hi⟩: ∃i,out[m]? =some i:=⟨_,List.getElem?_eq_getElem hml⟩;obtain⟨bD,oD,he,d0,d1,d2',d3,d4⟩:=xo (Rd.of_own (zm hown1 hEq)) hi;subst he;have lD:=zh d0;have Hio:=Lib.hid (List.mem_of_getElem? hi);clear hi;go_upto_region 23 with fail;refine yN (fun W22 k21 hE22=> ?_);obtain⟨b21,hb21⟩: ∃b,wr.heap.size=b:=⟨_,rfl⟩;rw[hb21]at k21|-;clear hb21 d0 d1 d2' d3 d4 lD;have k5q:=k5r.ext ((hE7.trans hEq).trans hE22);have c5:=k5q.cell;have l5:=k5q.lt;have c21:=k21.cell;have l21:=k21.lt;go_wp2_with fail;go_at_call 105;refine(zfu A0 Bf a b S i W22 hsh (Hw.out q (List.mem_of_getElem? Hq.out) i (Hin.out i Hio.out).1)).mono ?_;rintro e w5 ⟨⟨z1,rfl⟩,hE23⟩;have hEv:=(hEq.trans hE22).trans hE23;replace k21:=k21.ext hE23;have hown2:=zm hownq (hE22.trans hE23);clear c5 l5 c21 l21 k5q;have hsz:=hEv.size_le;have c21:=k21.cell;have l21:=k21.lt;obtain⟨z',hz'⟩: ∃z',wrap64 (z-z1)=z':=⟨_,rfl⟩;by_cases hneg:z'<0
         ·have f1:decide (z'<0)=true:=by simpa using hneg
          clear hneg;go_upto_region 27 with fail;rw[hz'];clear hz';have k7z:=k7r.ext (hE7.trans hEv);have k9z:=k9r.ext (hE7.trans hEv);have hsz1:=hE7.size_le;have l9r:=k9r.lt;have c7:=k7z.cell;have l7:=k7z.lt;have c9:=k9z.cell;have l9:=k9z.lt;have f9:=k9z.froz;refine jRB [b9] [(true,0),(true,1),(true,2),(false,3),(true,4)] Tryz.mixed fun hx hy=> ?_
          repeat(first
           |refine jLB hx ?_
           |refine jLS ?_
           |(refine yP hx (fun K hK=> ?_);go_simp;(first|refine hK _ _ jB ?_|refine hK undef _ jB ?_);clear hK hx;intro hx;try refine jq ?_)
           |(refine yP hx (fun K hK=> ?_);have hcy:=Ext.cell hy;have hfy:=Ext.froz hy;go_simp;(first|refine hK _ _ jB ?_|refine hK undef _ jB ?_);clear hK hx;intro hx;try refine jq ?_))
          refine zH ?_;go_wp2_with fail
          refine ja rfl rfl rfl rfl (((k9z.set_ 0 _).set_ 1 _).set_ 2 _).drew ⟨D2,d2,out2,nb,bg',ls',false,rfl,zu (yu (yu (yu hown2 (by simp only;omega) _) (by simp only;omega) _) (by simp only;omega) _) (by omega),Ext.drew (Ext.setCell (Ext.setCell (Ext.setCell ((hEr.trans hE).trans (hE7.trans hEv)) hw9 _) hw9 _) hw9 _),hnbl,Hiff.out,Hold.out,Hall.out,fun x hx=>⟨q,Hq.out,Hin.out x (Hin2.out x hx)⟩,fun q' hq'=>by
           rw[Hq.out]at hq';injection hq' with hq';subst hq';omega⟩
         ·have f1:decide (z'<0)=false:=by simpa using hneg
          clear hneg;by_cases hb0:bat=0
          ·subst hb0
           go_wp2_with(first|(at_builtin;refine zJ rfl Tryz.elN _ _ rfl w1.heap.size _ _ _ rfl (z8 hown2 _) _ 1 1 _ rfl (yF _ [_,_,_,_,_] 144 1 5 rfl) (by simp[Value.oneCell']) (by omega) (by omega) (by(first|omega|(simp;done)|(simp;omega))) ?_;intro A2 a2 w2 hown3 hg2 hat2;have hE2:Ext w1 w2:=yy (Ext.alloc hEv _) hg2 (z8 hown2 _) (by omega)));go_roundw
           case rel=>exact⟨m+1,A2,a2,out2++ [i],z',by omega,by simp;omega,by go_num,by simp,rfl,by simpa[yC,zQ]using hown3,fun x hx=>by
            rcases List.mem_append.1 hx with hx|hx
            ·exact Hin2.out x hx
            ·simp only[List.mem_singleton]at hx
             subst hx;exact Hio.out,hE2⟩
           case measure=>simp[intOf];omega
          ·have f2:(bat !=0)=true:=by simpa using hb0
           have f3:(bat==0)=false:=by simpa using hb0
           clear hb0;by_cases hfull:(out2.length:Int)=bat
           ·have f4:((out2.length:Int)==bat)=true:=by simpa using hfull
            clear hfull;go_upto_region 27 with fail;rw[hz'];clear hz';have k7z:=k7r.ext (hE7.trans hEv);have k9z:=k9r.ext (hE7.trans hEv);have hsz1:=hE7.size_le;have l9r:=k9r.lt;have c7:=k7z.cell;have l7:=k7z.lt;have c9:=k9z.cell;have l9:=k9z.lt;have f9:=k9z.froz;refine jRB [b9] [(true,0),(true,1),(true,2),(false,3),(true,4)] Tryz.mixed fun hx hy=> ?_
            repeat(first
             |refine jLB hx ?_
             |refine jLS ?_
             |(refine yP hx (fun K hK=> ?_);go_simp;(first|refine hK _ _ jB ?_|refine hK undef _ jB ?_);clear hK hx;intro hx;try refine jq ?_)
             |(refine yP hx (fun K hK=> ?_);have hcy:=Ext.cell hy;have hfy:=Ext.froz hy;go_simp;(first|refine hK _ _ jB ?_|refine hK undef _ jB ?_);clear hK hx;intro hx;try refine jq ?_))
            refine zH ?_;go_wp2_with fail;refine ja rfl rfl rfl rfl (((k9z.set_ 0 _).set_ 1 _).set_ 2 _).drew ⟨D2,d2,out2,nb,bg',ls',false,rfl,zu (yu (yu (yu hown2 (by simp only;omega) _) (by simp only;omega) _) (by simp only;omega) _) (by omega),Ext.drew (Ext.setCell (Ext.setCell (Ext.setCell ((hEr.trans hE).trans (hE7.trans hEv)) hw9 _) hw9 _) hw9 _),hnbl,Hiff.out,Hold.out,Hall.out,fun x hx=>⟨q,Hq.out,Hin.out x (Hin2.out x hx)⟩,fun q' hq'=>by
           rw[Hq.out]at hq';injection hq' with hq';subst hq';omega⟩
           ·have f4:((out2.length:Int)==bat)=false:=by simpa using hfull
            clear hfull;go_wp2_with(first|(at_builtin;refine zJ rfl Tryz.elN _ _ rfl w1.heap.size _ _ _ rfl (z8 hown2 _) _ 1 1 _ rfl (yF _ [_,_,_,_,_] 144 1 5 rfl) (by simp[Value.oneCell']) (by omega) (by omega) (by(first|omega|(simp;done)|(simp;omega))) ?_;intro A2 a2 w2 hown3 hg2 hat2;have hE2:Ext w1 w2:=yy (Ext.alloc hEv _) hg2 (z8 hown2 _) (by omega)));go_roundw
            case rel=>exact⟨m+1,A2,a2,out2++ [i],z',by omega,by simp;omega,by go_num,by simp,rfl,by simpa[yC,zQ]using hown3,fun x hx=>by
             rcases List.mem_append.1 hx with hx|hx
             ·exact Hin2.out x hx
             ·simp only[List.mem_singleton]at hx
              subst hx;exact Hio.out,hE2⟩
            case measure=>simp[intOf];omega
        ·have hmec:decide ((m:Int)<out.length)=false:=by simp;omega
         have hmec':decide (m<out.length)=false:=by simp;omega
         go_upto_region 27 with fail;have k7z:=k7r.ext (hE7.trans hEq);have k9z:=k9r.ext (hE7.trans hEq);have hsz1:=hE7.size_le;have l9r:=k9r.lt;have c7:=k7z.cell;have l7:=k7z.lt;have c9:=k9z.cell;have l9:=k9z.lt;have f9:=k9z.froz;refine jRB [b9] [(true,0),(true,1),(true,2),(false,3),(true,4)] Tryz.mixed fun hx hy=> ?_
         repeat(first
          |refine jLB hx ?_
          |refine jLS ?_
          |(refine yP hx (fun K hK=> ?_);go_simp;(first|refine hK _ _ jB ?_|refine hK undef _ jB ?_);clear hK hx;intro hx;try refine jq ?_)
          |(refine yP hx (fun K hK=> ?_);have hcy:=Ext.cell hy;have hfy:=Ext.froz hy;go_simp;(first|refine hK _ _ jB ?_|refine hK undef _ jB ?_);clear hK hx;intro hx;try refine jq ?_))
         refine zH ?_;go_wp2_with fail
         refine ja rfl rfl rfl rfl (((k9z.set_ 0 _).set_ 1 _).set_ 2 _).drew ⟨D2,d2,out2,nb,bg',ls',false,rfl,zu (yu (yu (yu hownq (by simp only;omega) _) (by simp only;omega) _) (by simp only;omega) _) (by omega),Ext.drew (Ext.setCell (Ext.setCell (Ext.setCell ((hEr.trans hE).trans (hE7.trans hEq)) hw9 _) hw9 _) hw9 _),hnbl,Hiff.out,Hold.out,Hall.out,fun x hx=>⟨q,Hq.out,Hin.out x (Hin2.out x hx)⟩,fun q' hq'=>by
          rw[Hq.out]at hq';injection hq' with hq';subst hq';omega⟩
end Go.Proofs.YtopcdfbplknmlaaGreat
