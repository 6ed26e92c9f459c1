/- Part of the proof of the claim: walks and plain laws; each theorem states its own conditions. -/
import Derived.Test.YtopcdfbplknmlaaGreatL
import Derived.Test.YtopcdfbplknmlaaGreatG23
set_option linter.all false
set_option maxHeartbeats 2000000
set_option maxRecDepth 100000
namespace Go.Proofs.YtopcdfbplknmlaaGreat.Mo
open Go.RowKit Go.Draw
theorem zrh(v:Value)(g:Gr)(d:Int)(i m k:Nat)(x:List Int×List Int)(w:World){S:List Nat}(hSb: ∀x∈S,x<w.heap.size)(hg0:GRx S w v g)(hv:Vld g)(hb:Bd g)(hi:i<32)(hu:g.us[i]? =some true)(hr:g.rs[i]? =some (m:Int))(hx0:g.ns[m]? =some x)(hk:k<x.2.length):
 Calls Tryz.prog 21 #[v,.agg #[.int .i64 5,.int .i64 ((i:Int)+1),.int .i64 k,.int .i64 d]] w (xf S w (xh g m 5 ((i:Int)+1) k d)):=by
 obtain⟨z,hz⟩: ∃z,x.2[k]? =some z:=⟨_,List.getElem?_eq_getElem hk⟩
 have ht:xh g m 5 ((i:Int)+1) k d=(⟨g.ns.set m (x.1,x.2.set k (znv d)),g.us,g.rs⟩,0,0):=by
  simp[xh,List.getD_eq_getElem?_getD,hx0,Nat.not_le.2 hk,show¬((k:Int)<0) by omega]
 rw[ht];clear ht;have Hz:=Lib.hid hz;have kd1:decide ((k:Int)<0)=false:=by simp
 have kd2:decide ((x.2.length:Int)<=k)=false:=by simp;omega
 have kd3:decide (x.2.length<=k)=false:=by simp;omega
 have kb1:(k:Int)<x.2.length:=by omega
 clear hz;have hg:=hg0.rd;have hlu:=Lib.hid hv.lu;have hlr:=Lib.hid hv.lr;have ha0:=xi g i true true hi hu;have ha1:(yi g ((i:Int)+1) true==0)=true:=by rw[ha0];rfl
 have ha2:(yi g ((i:Int)+1) true !=0)=false:=by rw[ha0];rfl
 have hm:=(List.getElem?_eq_some_iff.1 hx0).1;have hmb:(m:Int)<g.ns.length:=by omega
 have hn:=hv.nd m x hx0;have hn1:=hn.1;have hn2:=hn.2.1;have Hr:=Lib.hid hr;have Hx:=Lib.hid hx0;have Hn:=Lib.hid hn;have Hu:=Lib.hid hu;have b1:(i:Int)+1-1=i:=by omega
 clear ha0 hv hu hr hx0 hn;obtain⟨A0,a0,B0,b0,C0,c0,rfl⟩:=hg.sl;go_enter Tryz.func21,Tryz.ntmps21;go_upto_region 2 with(go_at_call 43;refine(ym _ g _ (hg.ext jX) hb).mono ?_;rintro e w1 ⟨vA,vB,vC,qs,rfl,hG,hE1⟩;obtain⟨A1,a1,rfl⟩:=own_slice hG.nodes;obtain⟨B1,b1,rfl⟩:=own_slice hG.used;obtain⟨C1,c1,rfl⟩:=own_slice hG.roots;have kO:Blk (w1.alloc (.cells #[.slice none 0 0,.slice none 0 0,.slice none 0 0] 41)) w1.heap.size 41 #[.slice none 0 0,.slice none 0 0,.slice none 0 0]:=Blk.new rfl;have cO:=kO.cell;have fO:=kO.froz);clear kO cO fO;have hS:=yt hg hE1 hG;clear hE1 hG hg;obtain⟨k2,k3,k4,k5,kO,hG,hg,hE,hlo,hhi⟩:=hS;generalize hW:w1.alloc (.cells #[.slice A1 g.ns.length a1,.slice B1 g.us.length b1,.slice C1 g.rs.length c1] 41)=W at*;clear hW;generalize w1.heap.size=o at*;clear w1;have m2:=k2.cell;have m3:=k3.cell;have mO:=kO.cell;have f4:=k4.froz;have f5:=k5.froz;have n4:w.heap.size+1+1≠o:=by omega
 have n5:w.heap.size+1+1+1≠o:=by omega
 obtain⟨ba,oa,R,cR,D,cD,rfl,q0,q1,hR,hD,lq⟩:=hg0.rd.node Hx.out;replace q0:=zp hE q0;replace q1:=zp hE q1;go_upto_region 41 with(first|(go_at_call 47;refine(ya _ g _ _ _ (hg.ext jX) hlu.out).mono ?_;rintro e w1 ⟨rfl,hE3⟩;have hE4:Ext W w1:=jX;have m2':=(k2.ext hE4).cell;have m3':=(k3.ext hE4).cell;have mO':=(kO.ext hE4).cell));obtain⟨W5,rfl⟩: ∃W5,W5=w1:=⟨_,rfl⟩;have hE5:Ext W W5:=jX;have q0':=zp hE5 q0;have q1':=zp hE5 q1;have lq':=zh q0';have z5:=hE5.size_le;have l2:=(k2.ext hE5).lt;have l3:=(k3.ext hE5).lt;go_cut [13] (fun t wx=> ∃q,t= .pointer (some ⟨q,0,none⟩)∧Blk wx q 106 #[.slice R x.1.length cR,.slice D x.2.length cD]∧Ext W wx∧W.heap.size<=q)
 case first=>
  refine zn (W5.heap.size) [] (.take 0 (.take 1 (.take 2 (.take 3 (.take 4 (.alt 5 (.take 6 (.take 7 (.alt 8 (.alt 9 .done .none) .none))) (.alt 8 (.alt 5 (.take 6 (.take 7 (.alt 9 .done .none))) .none) .none))))))) Tryz.mixed (by kernel_rfl) ?_;intro hx;iterate 5 (first|refine jTN hx ?_|refine jTS ?_)
  refine jCN hx (fun K hK=> ?_) ?_;go_simp;go_at_call 48;refine(yc _ g i m _ (hg.ext (hE5.trans (zV hx))) hlr.out hi Hr.out).mono ?_;rintro e w1 ⟨rfl,hE1⟩;have hz1:=hE1.size_le;(try simp at hz1);(try(replace hk5:=hk5.ext hE1));refine hK _ _ ((hE1).bel _) ?_;clear hK hx;intro hx;refine jp ?_;iterate 2 (first|refine jTN hx ?_|refine jTS ?_)
  refine jTC (fun K hK=> ?_);go_simp;first|refine hK _ _ jN ?_|refine hK undef _ jN ?_
  clear hK;intro hr;(try have hk5:=zI hr);(try have hk5:=zE hr);replace hx:=hx.trans hr;clear hr;refine jp ?_;refine yl hx (fun K hK=> ?_);try(have hc5:=hk5.cell;have hf5:=hk5.froz)
  go_simp;refine hK _ jN ?_;clear hK hx;intro hx;refine zi ?_;rotate_left;refine jTC (fun K hK=> ?_);go_simp;first|refine hK _ _ jN ?_|refine hK undef _ jN ?_
  clear hK;intro hr;(try have hk5:=zI hr);(try have hk5:=zE hr);replace hx:=hx.trans hr;clear hr;refine jp ?_;refine jCN hx (fun K hK=> ?_);go_simp;go_at_call 48;refine(yc _ g i m _ (hg.ext (hE5.trans (zV hx))) hlr.out hi Hr.out).mono ?_;rintro e w1 ⟨rfl,hE1⟩;have hz1:=hE1.size_le;(try simp at hz1);(try(replace hk5:=hk5.ext hE1));refine hK _ _ ((hE1).bel _) ?_;clear hK hx;intro hx;refine jp ?_;iterate 2 (first|refine jTN hx ?_|refine jTS ?_)
  refine yl hx (fun K hK=> ?_);try(have hc5:=hk5.cell;have hf5:=hk5.froz)
  go_simp;refine hK _ jN ?_;clear hK hx;intro hx;refine zi ?_;rotate_left
  all_goals
   go_wp2;go_meet;refine⟨_,rfl,?_,hE5.trans (zV hx),by(first|omega|(simp;done)|(simp;omega))⟩
   first
    |exact Blk.new rfl
    |exact(hk5.set_ 0 _).set_ 1 _
 case rest=>
  obtain⟨q,rfl,kq,hEq,hq⟩:=hcut;have K2:=k2.ext hEq;have K3:=k3.ext hEq;have K4:=k4.ext hEq;have K5:=k5.ext hEq;have KO:=kO.ext hEq;have HG:=hG.ext hEq;have HE:=hE.trans hEq;have lt5:=k5.lt;have lt2:=K2.lt;have lt3:=K3.lt;have lt4:=K4.lt;have ltO:=KO.lt;have ltq:=kq.lt;have e1:q≠w.heap.size+1+1:=by omega
  have e2:q≠w.heap.size+1+1+1:=by omega
  have e3:q≠o:=by omega
  have e4:o≠w.heap.size+1+1:=by omega
  have e5:o≠w.heap.size+1+1+1:=by omega
  have e6:w.heap.size+1≠o:=by omega
  have e7:w.heap.size≠o:=by omega
  clear q0' q1' lq' z5 l2 l3 hE5;have C2:=K2.cell;have C3:=K3.cell;have C4:=K4.cell;have C5:=K5.cell;have CO:=KO.cell;have Cq:=kq.cell;have F4:=K4.froz;have F5:=K5.froz;replace hg:=hg.ext hEq;obtain⟨bA,cA,hA⟩:=jh HG.nodes (by omega);injection hA with hA _ hA2;subst hA hA2;have hql:=HG.len;obtain⟨p,hp⟩: ∃p,qs[m]? =some p:=⟨_,List.getElem?_eq_getElem (by omega)⟩;obtain⟨o1,o2⟩:=HG.each m p x hp Hx.out;have Hp:=Lib.hid hp;have hDp:=jh o2 (by omega);obtain⟨bD,cD2,hDe⟩:=hDp;obtain⟨cA1,fA1⟩:=zz HG.nodes;have qD:=cA1 _ _ (vt qs m _ hp).2;rw[hDe]at qD o2;obtain⟨cD1,fD1⟩:=zz o2;have qz:=cD1 k _ (xV Hz.out);have HDe:=Lib.hid hDe;have hbD:=HG.lt (.D m) bD (by simp only[kv,hp,Option.bind_some];rw[hDe];rfl);have hDo:bD≠o:=fun e=>HG.off (.D m) (by simp only[kv,hp,Option.bind_some];rw[hDe,e];rfl)
  have hDA:bD≠bA:=fun e=>by
   have:=HG.apart (.D m) .A bD (by simp only[kv,hp,Option.bind_some];rw[hDe];rfl) (by rw[e];rfl);cases this
  have hDA':bA≠bD:=fun e=>hDA e.symm
  have hDo':o≠bD:=fun e=>hDo e.symm
  have d1:w.heap.size≠bD:=by omega
  have d2:w.heap.size+1≠bD:=by omega
  have d3:w.heap.size+1+1≠bD:=by omega
  have d4:w.heap.size+1+1+1≠bD:=by omega
  have lD:=hbD.2;have lA:=zh qD;clear cA1 cD1 hDe hp hql o1 o2 fA1;go_wp2_with fail;refine zM [bD] (.take 0 (.take 1 (.take 2 (.take 3 (.take 4 (.take 9 (.take 10 (.take 11 (.take 12 (.take 13 (.alt 5 (.take 6 (.take 7 (.take 8 (.take 14 (.alt 15 .done .none))))) .none))))))))))) Tryz.mixed (by kernel_rfl) ?_;intro hx hy;iterate 10 (first|refine jTB hx ?_|refine jTS ?_)
  refine jCB hx (fun K hK=> ?_);go_simp;go_at_call 48;refine(yc _ g i m _ (hg.ext jX) hlr.out hi Hr.out).mono ?_;rintro e w1 ⟨rfl,hE1⟩;refine hK _ _ ((hE1).but _) ?_;clear hK hx;intro hx;replace hy:=Ext.trans hy (Ext.trans jX (hE1));refine jp ?_;iterate 4 (first|refine jTB hx ?_|refine jTS ?_)
  refine kc hx (fun K hK=> ?_);have hcy:=Ext.cell hy;have hfy:=Ext.froz hy;go_simp;refine hK _ jB ?_;clear hK hx;intro hx;refine zi ?_;go_wp2;have hEx:Ext wc w1:=jX;have K4':=(K4.ext hEx).far (p:=⟨bD,k,none⟩) d3 (.int .u64 (IntKind.u64.wrap d));have K5':=(K5.ext hEx).far (p:=⟨bD,k,none⟩) d4 (.int .u64 (IntKind.u64.wrap d));have HG':=(HG.ext hEx).setD Hp.out Hx.out HDe.out k (IntKind.u64.wrap d);have HE':=Ext.setCell (HE.trans hEx) (p:=⟨bD,k,none⟩) (by show w.heap.size<=bD;omega) (.int .u64 (IntKind.u64.wrap d));obtain⟨cF4,cF5⟩:=qZ (n:=w.heap.size) (.slice (some ⟨bA,0,none⟩) g.ns.length a1) (.slice B1 g.us.length b1) (.slice C1 g.rs.length c1) (.int .i64 0) (.int .u64 (0)) (K4') (K5');exact bodyPost_ret (v:= .tuple #[.agg #[.slice (some ⟨bA,0,none⟩) g.ns.length a1,.slice B1 g.us.length b1,.slice C1 g.rs.length c1],.agg #[.int .i64 0,.int .u64 (0)]]) (by simp[results,Tryz.results21,go_sem,cF4,cF5]) rfl ⟨_,rfl,zcc hSb (HG'),x9 (HE')⟩
theorem zri(v:Value)(g:Gr)(d:Int)(i m k:Nat)(x:List Int×List Int)(w:World){S:List Nat}(hSb: ∀x∈S,x<w.heap.size)(hg0:GRx S w v g)(hv:Vld g)(hb:Bd g)(hi:i<32)(hu:g.us[i]? =some true)(hr:g.rs[i]? =some (m:Int))(hx0:g.ns[m]? =some x)(hk:k<x.1.length)(hd:yi g d false=0):
 Calls Tryz.prog 21 #[v,.agg #[.int .i64 3,.int .i64 ((i:Int)+1),.int .i64 k,.int .i64 d]] w (xf S w (xh g m 3 ((i:Int)+1) k d)):=by
 obtain⟨z,hz⟩: ∃z,x.1[k]? =some z:=⟨_,List.getElem?_eq_getElem hk⟩
 have ht:xh g m 3 ((i:Int)+1) k d=(⟨g.ns.set m (x.1.set k (hNd g d),x.2),g.us,g.rs⟩,0,0):=by
  simp[xh,List.getD_eq_getElem?_getD,hx0,Nat.not_le.2 hk,hd,show¬((k:Int)<0) by omega]
 have hd1:(yi g d false==0)=true:=by simpa using hd
 have hd2:(yi g d false !=0)=false:=by simpa using hd
 have rd:0<=d∧d<=32:=by rcases jE hv.lu hd with⟨h,_⟩|⟨i,h,h2,_⟩<;>omega
 clear hd;rw[ht];clear ht;have Hz:=Lib.hid hz;have kd1:decide ((k:Int)<0)=false:=by simp
 have kd2:decide ((x.1.length:Int)<=k)=false:=by simp;omega
 have kd3:decide (x.1.length<=k)=false:=by simp;omega
 have kb1:(k:Int)<x.1.length:=by omega
 clear hz;have hg:=hg0.rd;have hlu:=Lib.hid hv.lu;have hlr:=Lib.hid hv.lr;have ha0:=xi g i true true hi hu;have ha1:(yi g ((i:Int)+1) true==0)=true:=by rw[ha0];rfl
 have ha2:(yi g ((i:Int)+1) true !=0)=false:=by rw[ha0];rfl
 have hm:=(List.getElem?_eq_some_iff.1 hx0).1;have hmb:(m:Int)<g.ns.length:=by omega
 have hn:=hv.nd m x hx0;have hn1:=hn.1;have hn2:=hn.2.1;have Hr:=Lib.hid hr;have Hx:=Lib.hid hx0;have Hn:=Lib.hid hn;have Hu:=Lib.hid hu;have b1:(i:Int)+1-1=i:=by omega
 clear ha0 hv hu hr hx0 hn;obtain⟨A0,a0,B0,b0,C0,c0,rfl⟩:=hg.sl;go_enter Tryz.func21,Tryz.ntmps21;go_upto_region 2 with(go_at_call 43;refine(ym _ g _ (hg.ext jX) hb).mono ?_;rintro e w1 ⟨vA,vB,vC,qs,rfl,hG,hE1⟩;obtain⟨A1,a1,rfl⟩:=own_slice hG.nodes;obtain⟨B1,b1,rfl⟩:=own_slice hG.used;obtain⟨C1,c1,rfl⟩:=own_slice hG.roots;have kO:Blk (w1.alloc (.cells #[.slice none 0 0,.slice none 0 0,.slice none 0 0] 41)) w1.heap.size 41 #[.slice none 0 0,.slice none 0 0,.slice none 0 0]:=Blk.new rfl;have cO:=kO.cell;have fO:=kO.froz);clear kO cO fO;have hS:=yt hg hE1 hG;clear hE1 hG hg;obtain⟨k2,k3,k4,k5,kO,hG,hg,hE,hlo,hhi⟩:=hS;generalize hW:w1.alloc (.cells #[.slice A1 g.ns.length a1,.slice B1 g.us.length b1,.slice C1 g.rs.length c1] 41)=W at*;clear hW;generalize w1.heap.size=o at*;clear w1;have m2:=k2.cell;have m3:=k3.cell;have mO:=kO.cell;have f4:=k4.froz;have f5:=k5.froz;have n4:w.heap.size+1+1≠o:=by omega
 have n5:w.heap.size+1+1+1≠o:=by omega
 obtain⟨ba,oa,R,cR,D,cD,rfl,q0,q1,hR,hD,lq⟩:=hg0.rd.node Hx.out;replace q0:=zp hE q0;replace q1:=zp hE q1;go_upto_region 41 with(first|(go_at_call 47;refine(ya _ g _ _ _ (hg.ext jX) hlu.out).mono ?_;rintro e w1 ⟨rfl,hE3⟩;have hE4:Ext W w1:=jX;have m2':=(k2.ext hE4).cell;have m3':=(k3.ext hE4).cell;have mO':=(kO.ext hE4).cell));obtain⟨W5,rfl⟩: ∃W5,W5=w1:=⟨_,rfl⟩;have hE5:Ext W W5:=jX;have q0':=zp hE5 q0;have q1':=zp hE5 q1;have lq':=zh q0';have z5:=hE5.size_le;have l2:=(k2.ext hE5).lt;have l3:=(k3.ext hE5).lt;go_cut [13] (fun t wx=> ∃q,t= .pointer (some ⟨q,0,none⟩)∧Blk wx q 106 #[.slice R x.1.length cR,.slice D x.2.length cD]∧Ext W wx∧W.heap.size<=q)
 case first=>
  refine zn (W5.heap.size) [] (.take 0 (.take 1 (.take 2 (.take 3 (.take 4 (.alt 5 (.take 6 (.take 7 (.alt 8 (.alt 9 .done .none) .none))) (.alt 8 (.alt 5 (.take 6 (.take 7 (.alt 9 .done .none))) .none) .none))))))) Tryz.mixed (by kernel_rfl) ?_;intro hx;iterate 5 (first|refine jTN hx ?_|refine jTS ?_)
  refine jCN hx (fun K hK=> ?_) ?_;go_simp;go_at_call 48;refine(yc _ g i m _ (hg.ext (hE5.trans (zV hx))) hlr.out hi Hr.out).mono ?_;rintro e w1 ⟨rfl,hE1⟩;have hz1:=hE1.size_le;(try simp at hz1);(try(replace hk5:=hk5.ext hE1));refine hK _ _ ((hE1).bel _) ?_;clear hK hx;intro hx;refine jp ?_;iterate 2 (first|refine jTN hx ?_|refine jTS ?_)
  refine jTC (fun K hK=> ?_);go_simp;first|refine hK _ _ jN ?_|refine hK undef _ jN ?_
  clear hK;intro hr;(try have hk5:=zI hr);(try have hk5:=zE hr);replace hx:=hx.trans hr;clear hr;refine jp ?_;refine yl hx (fun K hK=> ?_);try(have hc5:=hk5.cell;have hf5:=hk5.froz)
  go_simp;refine hK _ jN ?_;clear hK hx;intro hx;refine zi ?_;rotate_left;refine jTC (fun K hK=> ?_);go_simp;first|refine hK _ _ jN ?_|refine hK undef _ jN ?_
  clear hK;intro hr;(try have hk5:=zI hr);(try have hk5:=zE hr);replace hx:=hx.trans hr;clear hr;refine jp ?_;refine jCN hx (fun K hK=> ?_);go_simp;go_at_call 48;refine(yc _ g i m _ (hg.ext (hE5.trans (zV hx))) hlr.out hi Hr.out).mono ?_;rintro e w1 ⟨rfl,hE1⟩;have hz1:=hE1.size_le;(try simp at hz1);(try(replace hk5:=hk5.ext hE1));refine hK _ _ ((hE1).bel _) ?_;clear hK hx;intro hx;refine jp ?_;iterate 2 (first|refine jTN hx ?_|refine jTS ?_)
  refine yl hx (fun K hK=> ?_);try(have hc5:=hk5.cell;have hf5:=hk5.froz)
  go_simp;refine hK _ jN ?_;clear hK hx;intro hx;refine zi ?_;rotate_left
  all_goals
   go_wp2;go_meet;refine⟨_,rfl,?_,hE5.trans (zV hx),by(first|omega|(simp;done)|(simp;omega))⟩
   first
    |exact Blk.new rfl
    |exact(hk5.set_ 0 _).set_ 1 _
 case rest=>
  obtain⟨q,rfl,kq,hEq,hq⟩:=hcut;have K2:=k2.ext hEq;have K3:=k3.ext hEq;have K4:=k4.ext hEq;have K5:=k5.ext hEq;have KO:=kO.ext hEq;have HG:=hG.ext hEq;have HE:=hE.trans hEq;have lt5:=k5.lt;have lt2:=K2.lt;have lt3:=K3.lt;have lt4:=K4.lt;have ltO:=KO.lt;have ltq:=kq.lt;have e1:q≠w.heap.size+1+1:=by omega
  have e2:q≠w.heap.size+1+1+1:=by omega
  have e3:q≠o:=by omega
  have e4:o≠w.heap.size+1+1:=by omega
  have e5:o≠w.heap.size+1+1+1:=by omega
  have e6:w.heap.size+1≠o:=by omega
  have e7:w.heap.size≠o:=by omega
  clear q0' q1' lq' z5 l2 l3 hE5;have C2:=K2.cell;have C3:=K3.cell;have C4:=K4.cell;have C5:=K5.cell;have CO:=KO.cell;have Cq:=kq.cell;have F4:=K4.froz;have F5:=K5.froz;replace hg:=hg.ext hEq;go_upto_region 63 with(first|(go_at_call 47;refine(ya _ g _ _ _ (hg.ext jX) hlu.out).mono ?_;rintro e w1 ⟨rfl,hE3⟩;have hE4:Ext W w1:=jX;have m2':=(k2.ext hE4).cell;have m3':=(k3.ext hE4).cell;have mO':=(kO.ext hE4).cell));obtain⟨wd,rfl⟩: ∃wd,wd=w1:=⟨_,rfl⟩;have hEq2:Ext wc wd:=jX;replace hg:=hg.ext hEq2;replace HG:=HG.ext hEq2;replace HE:=HE.trans hEq2;replace K2:=K2.ext hEq2;replace K3:=K3.ext hEq2;replace K4:=K4.ext hEq2;replace K5:=K5.ext hEq2;replace KO:=KO.ext hEq2;replace kq:=kq.ext hEq2;clear C2 C3 C4 C5 CO Cq F4 F5 m2' m3' mO';have C2:=K2.cell;have C3:=K3.cell;have CO:=KO.cell;have C4:=K4.cell;have C5:=K5.cell;have F4:=K4.froz;have F5:=K5.froz;obtain⟨bA,cA,hA⟩:=jh HG.nodes (by omega);injection hA with hA _ hA2;subst hA hA2;have hql:=HG.len;obtain⟨p,hp⟩: ∃p,qs[m]? =some p:=⟨_,List.getElem?_eq_getElem (by omega)⟩;obtain⟨o1,o2⟩:=HG.each m p x hp Hx.out;have Hp:=Lib.hid hp;have hDp:=jh o1 (by omega);obtain⟨bD,cD2,hDe⟩:=hDp;obtain⟨cA1,fA1⟩:=zz HG.nodes;have qD:=cA1 _ _ (vt qs m _ hp).1;rw[hDe]at qD o1;obtain⟨cD1,fD1⟩:=zz o1;have qz:=cD1 k _ (xq Hz.out);have HDe:=Lib.hid hDe;have hbD:=HG.lt (.R m) bD (by simp only[kv,hp,Option.bind_some];rw[hDe];rfl);have hDo:bD≠o:=fun e=>HG.off (.R m) (by simp only[kv,hp,Option.bind_some];rw[hDe,e];rfl)
  have hDA:bD≠bA:=fun e=>by
   have:=HG.apart (.R m) .A bD (by simp only[kv,hp,Option.bind_some];rw[hDe];rfl) (by rw[e];rfl);cases this
  have hDA':bA≠bD:=fun e=>hDA e.symm
  have hDo':o≠bD:=fun e=>hDo e.symm
  have d1:w.heap.size≠bD:=by omega
  have d2:w.heap.size+1≠bD:=by omega
  have d3:w.heap.size+1+1≠bD:=by omega
  have d4:w.heap.size+1+1+1≠bD:=by omega
  have lD:=hbD.2;have lA:=zh qD;clear cA1 cD1 hDe hp hql o1 o2 fA1;go_wp2_with fail;refine zM [bD] (.take 0 (.take 1 (.take 2 (.take 3 (.take 4 (.take 9 (.take 10 (.take 11 (.take 12 (.take 13 (.alt 5 (.take 6 (.take 7 (.take 8 (.alt 14 (.take 15 (.alt 16 .done .none)) .none)))) .none))))))))))) Tryz.mixed (by kernel_rfl) ?_;intro hx hy;iterate 10 (first|refine jTB hx ?_|refine jTS ?_)
  refine jCB hx (fun K hK=> ?_);go_simp;go_at_call 48;refine(yc _ g i m _ (hg.ext jX) hlr.out hi Hr.out).mono ?_;rintro e w1 ⟨rfl,hE1⟩;refine hK _ _ ((hE1).but _) ?_;clear hK hx;intro hx;replace hy:=Ext.trans hy (Ext.trans jX (hE1));refine jp ?_;iterate 3 (first|refine jTB hx ?_|refine jTS ?_)
  refine jCB hx (fun K hK=> ?_);go_simp;go_at_call 48;refine(ji _ g d _ (hg.ext jX) hlr.out rd).mono ?_;rintro e w1 ⟨rfl,hE3⟩;refine hK _ _ ((hE3).but _) ?_;clear hK hx;intro hx;replace hy:=Ext.trans hy (Ext.trans jX (hE3));refine jp ?_;first|refine jTB hx ?_|refine jTS ?_
  refine kc hx (fun K hK=> ?_);have hcy:=Ext.cell hy;have hfy:=Ext.froz hy;go_simp;refine hK _ jB ?_;clear hK hx;intro hx;refine zi ?_;go_wp2;have hEx:Ext wd w1:=jX;have K4':=(K4.ext hEx).far (p:=⟨bD,k,none⟩) d3 (.int .i64 (hNd g d));have K5':=(K5.ext hEx).far (p:=⟨bD,k,none⟩) d4 (.int .i64 (hNd g d));have HG':=(HG.ext hEx).setR Hp.out Hx.out HDe.out k (hNd g d);have HE':=Ext.setCell (HE.trans hEx) (p:=⟨bD,k,none⟩) (by show w.heap.size<=bD;omega) (.int .i64 (hNd g d));obtain⟨cF4,cF5⟩:=qZ (n:=w.heap.size) (.slice (some ⟨bA,0,none⟩) g.ns.length a1) (.slice B1 g.us.length b1) (.slice C1 g.rs.length c1) (.int .i64 0) (.int .u64 (0)) (K4') (K5');exact bodyPost_ret (v:= .tuple #[.agg #[.slice (some ⟨bA,0,none⟩) g.ns.length a1,.slice B1 g.us.length b1,.slice C1 g.rs.length c1],.agg #[.int .i64 0,.int .u64 (0)]]) (by simp[results,Tryz.results21,go_sem,cF4,cF5]) rfl ⟨_,rfl,zcc hSb (HG'),x9 (HE')⟩
theorem zpx(v:Value)(g:Gr)(d:Int)(i m k:Nat)(x:List Int×List Int)(w:World){S:List Nat}(hSb: ∀x∈S,x<w.heap.size)(hg0:GRx S w v g)(hv:Vld g)(hb:Bd g)(hi:i<32)(hu:g.us[i]? =some true)(hr:g.rs[i]? =some (m:Int))(hx0:g.ns[m]? =some x)(hk:k<x.1.length)(hd:yi g d false≠0):
 Calls Tryz.prog 21 #[v,.agg #[.int .i64 3,.int .i64 ((i:Int)+1),.int .i64 k,.int .i64 d]] w (xf S w (xh g m 3 ((i:Int)+1) k d)):=by
 obtain⟨z,hz⟩: ∃z,x.1[k]? =some z:=⟨_,List.getElem?_eq_getElem hk⟩
 have ht:xh g m 3 ((i:Int)+1) k d=(g,yi g d false,0):=by
  simp[xh,List.getD_eq_getElem?_getD,hx0,Nat.not_le.2 hk,hd,show¬((k:Int)<0) by omega]
 have hd1:(yi g d false==0)=false:=by simpa using hd
 have hd2:(yi g d false !=0)=true:=by simpa using hd
 clear hd;rw[ht];clear ht;have Hz:=Lib.hid hz;have kd1:decide ((k:Int)<0)=false:=by simp
 have kd2:decide ((x.1.length:Int)<=k)=false:=by simp;omega
 have kd3:decide (x.1.length<=k)=false:=by simp;omega
 have kb1:(k:Int)<x.1.length:=by omega
 clear hz;have hg:=hg0.rd;have hlu:=Lib.hid hv.lu;have hlr:=Lib.hid hv.lr;have ha0:=xi g i true true hi hu;have ha1:(yi g ((i:Int)+1) true==0)=true:=by rw[ha0];rfl
 have ha2:(yi g ((i:Int)+1) true !=0)=false:=by rw[ha0];rfl
 have hm:=(List.getElem?_eq_some_iff.1 hx0).1;have hmb:(m:Int)<g.ns.length:=by omega
 have hn:=hv.nd m x hx0;have hn1:=hn.1;have hn2:=hn.2.1;have Hr:=Lib.hid hr;have Hx:=Lib.hid hx0;have Hn:=Lib.hid hn;have Hu:=Lib.hid hu;have b1:(i:Int)+1-1=i:=by omega
 clear ha0 hv hu hr hx0 hn;obtain⟨A0,a0,B0,b0,C0,c0,rfl⟩:=hg.sl;go_enter Tryz.func21,Tryz.ntmps21;go_upto_region 2 with(go_at_call 43;refine(ym _ g _ (hg.ext jX) hb).mono ?_;rintro e w1 ⟨vA,vB,vC,qs,rfl,hG,hE1⟩;obtain⟨A1,a1,rfl⟩:=own_slice hG.nodes;obtain⟨B1,b1,rfl⟩:=own_slice hG.used;obtain⟨C1,c1,rfl⟩:=own_slice hG.roots;have kO:Blk (w1.alloc (.cells #[.slice none 0 0,.slice none 0 0,.slice none 0 0] 41)) w1.heap.size 41 #[.slice none 0 0,.slice none 0 0,.slice none 0 0]:=Blk.new rfl;have cO:=kO.cell;have fO:=kO.froz);clear kO cO fO;have hS:=yt hg hE1 hG;clear hE1 hG hg;obtain⟨k2,k3,k4,k5,kO,hG,hg,hE,hlo,hhi⟩:=hS;generalize hW:w1.alloc (.cells #[.slice A1 g.ns.length a1,.slice B1 g.us.length b1,.slice C1 g.rs.length c1] 41)=W at*;clear hW;generalize w1.heap.size=o at*;clear w1;have m2:=k2.cell;have m3:=k3.cell;have mO:=kO.cell;have f4:=k4.froz;have f5:=k5.froz;have n4:w.heap.size+1+1≠o:=by omega
 have n5:w.heap.size+1+1+1≠o:=by omega
 obtain⟨ba,oa,R,cR,D,cD,rfl,q0,q1,hR,hD,lq⟩:=hg0.rd.node Hx.out;replace q0:=zp hE q0;replace q1:=zp hE q1;go_upto_region 41 with(first|(go_at_call 47;refine(ya _ g _ _ _ (hg.ext jX) hlu.out).mono ?_;rintro e w1 ⟨rfl,hE3⟩;have hE4:Ext W w1:=jX;have m2':=(k2.ext hE4).cell;have m3':=(k3.ext hE4).cell;have mO':=(kO.ext hE4).cell));obtain⟨W5,rfl⟩: ∃W5,W5=w1:=⟨_,rfl⟩;have hE5:Ext W W5:=jX;have q0':=zp hE5 q0;have q1':=zp hE5 q1;have lq':=zh q0';have z5:=hE5.size_le;have l2:=(k2.ext hE5).lt;have l3:=(k3.ext hE5).lt;go_cut [13] (fun t wx=> ∃q,t= .pointer (some ⟨q,0,none⟩)∧Blk wx q 106 #[.slice R x.1.length cR,.slice D x.2.length cD]∧Ext W wx∧W.heap.size<=q)
 case first=>
  refine zn (W5.heap.size) [] (.take 0 (.take 1 (.take 2 (.take 3 (.take 4 (.alt 5 (.take 6 (.take 7 (.alt 8 (.alt 9 .done .none) .none))) (.alt 8 (.alt 5 (.take 6 (.take 7 (.alt 9 .done .none))) .none) .none))))))) Tryz.mixed (by kernel_rfl) ?_;intro hx;iterate 5 (first|refine jTN hx ?_|refine jTS ?_)
  refine jCN hx (fun K hK=> ?_) ?_;go_simp;go_at_call 48;refine(yc _ g i m _ (hg.ext (hE5.trans (zV hx))) hlr.out hi Hr.out).mono ?_;rintro e w1 ⟨rfl,hE1⟩;have hz1:=hE1.size_le;(try simp at hz1);(try(replace hk5:=hk5.ext hE1));refine hK _ _ ((hE1).bel _) ?_;clear hK hx;intro hx;refine jp ?_;iterate 2 (first|refine jTN hx ?_|refine jTS ?_)
  refine jTC (fun K hK=> ?_);go_simp;first|refine hK _ _ jN ?_|refine hK undef _ jN ?_
  clear hK;intro hr;(try have hk5:=zI hr);(try have hk5:=zE hr);replace hx:=hx.trans hr;clear hr;refine jp ?_;refine yl hx (fun K hK=> ?_);try(have hc5:=hk5.cell;have hf5:=hk5.froz)
  go_simp;refine hK _ jN ?_;clear hK hx;intro hx;refine zi ?_;rotate_left;refine jTC (fun K hK=> ?_);go_simp;first|refine hK _ _ jN ?_|refine hK undef _ jN ?_
  clear hK;intro hr;(try have hk5:=zI hr);(try have hk5:=zE hr);replace hx:=hx.trans hr;clear hr;refine jp ?_;refine jCN hx (fun K hK=> ?_);go_simp;go_at_call 48;refine(yc _ g i m _ (hg.ext (hE5.trans (zV hx))) hlr.out hi Hr.out).mono ?_;rintro e w1 ⟨rfl,hE1⟩;have hz1:=hE1.size_le;(try simp at hz1);(try(replace hk5:=hk5.ext hE1));refine hK _ _ ((hE1).bel _) ?_;clear hK hx;intro hx;refine jp ?_;iterate 2 (first|refine jTN hx ?_|refine jTS ?_)
  refine yl hx (fun K hK=> ?_);try(have hc5:=hk5.cell;have hf5:=hk5.froz)
  go_simp;refine hK _ jN ?_;clear hK hx;intro hx;refine zi ?_;rotate_left
  all_goals
   go_wp2;go_meet;refine⟨_,rfl,?_,hE5.trans (zV hx),by(first|omega|(simp;done)|(simp;omega))⟩
   first
    |exact Blk.new rfl
    |exact(hk5.set_ 0 _).set_ 1 _
 case rest=>
  obtain⟨q,rfl,kq,hEq,hq⟩:=hcut;have K2:=k2.ext hEq;have K3:=k3.ext hEq;have K4:=k4.ext hEq;have K5:=k5.ext hEq;have KO:=kO.ext hEq;have HG:=hG.ext hEq;have HE:=hE.trans hEq;have lt5:=k5.lt;have lt2:=K2.lt;have lt3:=K3.lt;have lt4:=K4.lt;have ltO:=KO.lt;have ltq:=kq.lt;have e1:q≠w.heap.size+1+1:=by omega
  have e2:q≠w.heap.size+1+1+1:=by omega
  have e3:q≠o:=by omega
  have e4:o≠w.heap.size+1+1:=by omega
  have e5:o≠w.heap.size+1+1+1:=by omega
  have e6:w.heap.size+1≠o:=by omega
  have e7:w.heap.size≠o:=by omega
  clear q0' q1' lq' z5 l2 l3 hE5;have C2:=K2.cell;have C3:=K3.cell;have C4:=K4.cell;have C5:=K5.cell;have CO:=KO.cell;have Cq:=kq.cell;have F4:=K4.froz;have F5:=K5.froz;replace hg:=hg.ext hEq;obtain⟨bA,cA,hA⟩:=jh HG.nodes (by omega);injection hA with hA _ hA2;subst hA hA2;have hql:=HG.len;obtain⟨p,hp⟩: ∃p,qs[m]? =some p:=⟨_,List.getElem?_eq_getElem (by omega)⟩;obtain⟨o1,o2⟩:=HG.each m p x hp Hx.out;have Hp:=Lib.hid hp;have hDp:=jh o1 (by omega);obtain⟨bD,cD2,hDe⟩:=hDp;obtain⟨cA1,fA1⟩:=zz HG.nodes;have qD:=cA1 _ _ (vt qs m _ hp).1;rw[hDe]at qD o1;obtain⟨cD1,fD1⟩:=zz o1;have qz:=cD1 k _ (xq Hz.out);have HDe:=Lib.hid hDe;have hbD:=HG.lt (.R m) bD (by simp only[kv,hp,Option.bind_some];rw[hDe];rfl);have hDo:bD≠o:=fun e=>HG.off (.R m) (by simp only[kv,hp,Option.bind_some];rw[hDe,e];rfl)
  have hDA:bD≠bA:=fun e=>by
   have:=HG.apart (.R m) .A bD (by simp only[kv,hp,Option.bind_some];rw[hDe];rfl) (by rw[e];rfl);cases this
  have hDA':bA≠bD:=fun e=>hDA e.symm
  have hDo':o≠bD:=fun e=>hDo e.symm
  have d1:w.heap.size≠bD:=by omega
  have d2:w.heap.size+1≠bD:=by omega
  have d3:w.heap.size+1+1≠bD:=by omega
  have d4:w.heap.size+1+1+1≠bD:=by omega
  have lD:=hbD.2;have lA:=zh qD;clear cA1 cD1 hDe hp hql o1 o2 fA1;go_wp2_with(first|(go_at_call 44;refine(yW _ g _ _ (hg.ext jX)).mono ?_;rintro e w1 ⟨rfl,hEf⟩;have hE2:Ext W w1:=jX;have m4':=(k4.ext hE2).cell;have m5':=(k5.ext hE2).cell;have f4':=(k4.ext hE2).froz;have f5':=(k5.ext hE2).froz)|(go_at_call 47;refine(ya _ g _ _ _ (hg.ext jX) hlu.out).mono ?_;rintro e w1 ⟨rfl,hE3⟩;have hE4:Ext W w1:=jX;have m2':=(k2.ext hE4).cell;have m3':=(k3.ext hE4).cell;have mO':=(kO.ext hE4).cell));obtain⟨cF4,cF5⟩:=qZ (n:=w.heap.size) (.slice (some ⟨ba,oa,none⟩) g.ns.length a0) (.slice B0 g.us.length b0) (.slice C0 g.rs.length c0) (.int .i64 (yi g d false)) (.int .u64 0) (k4.ext hE2) (k5.ext hE2);exact bodyPost_ret (v:= .tuple #[.agg #[.slice (some ⟨ba,oa,none⟩) g.ns.length a0,.slice B0 g.us.length b0,.slice C0 g.rs.length c0],.agg #[.int .i64 (yi g d false),.int .u64 0]]) (by simp[results,Tryz.results21,go_sem,cF4,cF5]) rfl ⟨_,rfl,hg0.ext (x9 (hE.trans hE2)),x9 (hE.trans hE2)⟩
theorem zpy(v:Value)(g:Gr)(d:Int)(i m k:Nat)(x:List Int×List Int)(w:World){S:List Nat}(hSb: ∀x∈S,x<w.heap.size)(hg0:GRx S w v g)(hv:Vld g)(hb:Bd g)(hi:i<32)(hu:g.us[i]? =some true)(hr:g.rs[i]? =some (m:Int))(hx0:g.ns[m]? =some x)(hk:k<x.1.length)(hn:x.1.getD k 0= -1):
 Calls Tryz.prog 21 #[v,.agg #[.int .i64 2,.int .i64 ((i:Int)+1),.int .i64 k,.int .i64 d]] w (xf S w (xh g m 2 ((i:Int)+1) k d)):=by
 obtain⟨z,hz⟩: ∃z,x.1[k]? =some z:=⟨_,List.getElem?_eq_getElem hk⟩;have hz1:=(List.getElem?_eq_some_iff.1 hz).2;have hz2:x.1.getD k 0=z:=by rw[List.getD_eq_getElem?_getD,hz];rfl
 have hz3:x.1[k]?.getD 0=z:=by rw[hz];rfl
 rw[hz2]at hn
 have ht:xh g m 2 ((i:Int)+1) k d=(g,0,0):=by
  simp[xh,List.getD_eq_getElem?_getD,hx0,Nat.not_le.2 hk,show¬((k:Int)<0) by omega,hz3,hn]
 have zt:(z==(-1:Int))=true:=by simpa using hn
 rw[ht];clear ht hz1 hz2 hz3 hn;have Hz:=Lib.hid hz;have kd1:decide ((k:Int)<0)=false:=by simp
 have kd2:decide ((x.1.length:Int)<=k)=false:=by simp;omega
 have kd3:decide (x.1.length<=k)=false:=by simp;omega
 have kb1:(k:Int)<x.1.length:=by omega
 clear hz;have hg:=hg0.rd;have hlu:=Lib.hid hv.lu;have hlr:=Lib.hid hv.lr;have ha0:=xi g i true true hi hu;have ha1:(yi g ((i:Int)+1) true==0)=true:=by rw[ha0];rfl
 have ha2:(yi g ((i:Int)+1) true !=0)=false:=by rw[ha0];rfl
 have hm:=(List.getElem?_eq_some_iff.1 hx0).1;have hmb:(m:Int)<g.ns.length:=by omega
 have hn:=hv.nd m x hx0;have hn1:=hn.1;have hn2:=hn.2.1;have Hr:=Lib.hid hr;have Hx:=Lib.hid hx0;have Hn:=Lib.hid hn;have Hu:=Lib.hid hu;have b1:(i:Int)+1-1=i:=by omega
 clear ha0 hv hu hr hx0 hn;obtain⟨A0,a0,B0,b0,C0,c0,rfl⟩:=hg.sl;go_enter Tryz.func21,Tryz.ntmps21;go_upto_region 2 with(go_at_call 43;refine(ym _ g _ (hg.ext jX) hb).mono ?_;rintro e w1 ⟨vA,vB,vC,qs,rfl,hG,hE1⟩;obtain⟨A1,a1,rfl⟩:=own_slice hG.nodes;obtain⟨B1,b1,rfl⟩:=own_slice hG.used;obtain⟨C1,c1,rfl⟩:=own_slice hG.roots;have kO:Blk (w1.alloc (.cells #[.slice none 0 0,.slice none 0 0,.slice none 0 0] 41)) w1.heap.size 41 #[.slice none 0 0,.slice none 0 0,.slice none 0 0]:=Blk.new rfl;have cO:=kO.cell;have fO:=kO.froz);clear kO cO fO;have hS:=yt hg hE1 hG;clear hE1 hG hg;obtain⟨k2,k3,k4,k5,kO,hG,hg,hE,hlo,hhi⟩:=hS;generalize hW:w1.alloc (.cells #[.slice A1 g.ns.length a1,.slice B1 g.us.length b1,.slice C1 g.rs.length c1] 41)=W at*;clear hW;generalize w1.heap.size=o at*;clear w1;have m2:=k2.cell;have m3:=k3.cell;have mO:=kO.cell;have f4:=k4.froz;have f5:=k5.froz;have n4:w.heap.size+1+1≠o:=by omega
 have n5:w.heap.size+1+1+1≠o:=by omega
 obtain⟨ba,oa,R,cR,D,cD,rfl,q0,q1,hR,hD,lq⟩:=hg0.rd.node Hx.out;replace q0:=zp hE q0;replace q1:=zp hE q1;go_upto_region 41 with(first|(go_at_call 47;refine(ya _ g _ _ _ (hg.ext jX) hlu.out).mono ?_;rintro e w1 ⟨rfl,hE3⟩;have hE4:Ext W w1:=jX;have m2':=(k2.ext hE4).cell;have m3':=(k3.ext hE4).cell;have mO':=(kO.ext hE4).cell));obtain⟨W5,rfl⟩: ∃W5,W5=w1:=⟨_,rfl⟩;have hE5:Ext W W5:=jX;have q0':=zp hE5 q0;have q1':=zp hE5 q1;have lq':=zh q0';have z5:=hE5.size_le;have l2:=(k2.ext hE5).lt;have l3:=(k3.ext hE5).lt;go_cut [13] (fun t wx=> ∃q,t= .pointer (some ⟨q,0,none⟩)∧Blk wx q 106 #[.slice R x.1.length cR,.slice D x.2.length cD]∧Ext W wx∧W.heap.size<=q)
 case first=>
  refine zn (W5.heap.size) [] (.take 0 (.take 1 (.take 2 (.take 3 (.take 4 (.alt 5 (.take 6 (.take 7 (.alt 8 (.alt 9 .done .none) .none))) (.alt 8 (.alt 5 (.take 6 (.take 7 (.alt 9 .done .none))) .none) .none))))))) Tryz.mixed (by kernel_rfl) ?_;intro hx;iterate 5 (first|refine jTN hx ?_|refine jTS ?_)
  refine jCN hx (fun K hK=> ?_) ?_;go_simp;go_at_call 48;refine(yc _ g i m _ (hg.ext (hE5.trans (zV hx))) hlr.out hi Hr.out).mono ?_;rintro e w1 ⟨rfl,hE1⟩;have hz1:=hE1.size_le;(try simp at hz1);(try(replace hk5:=hk5.ext hE1));refine hK _ _ ((hE1).bel _) ?_;clear hK hx;intro hx;refine jp ?_;iterate 2 (first|refine jTN hx ?_|refine jTS ?_)
  refine jTC (fun K hK=> ?_);go_simp;first|refine hK _ _ jN ?_|refine hK undef _ jN ?_
  clear hK;intro hr;(try have hk5:=zI hr);(try have hk5:=zE hr);replace hx:=hx.trans hr;clear hr;refine jp ?_;refine yl hx (fun K hK=> ?_);try(have hc5:=hk5.cell;have hf5:=hk5.froz)
  go_simp;refine hK _ jN ?_;clear hK hx;intro hx;refine zi ?_;rotate_left;refine jTC (fun K hK=> ?_);go_simp;first|refine hK _ _ jN ?_|refine hK undef _ jN ?_
  clear hK;intro hr;(try have hk5:=zI hr);(try have hk5:=zE hr);replace hx:=hx.trans hr;clear hr;refine jp ?_;refine jCN hx (fun K hK=> ?_);go_simp;go_at_call 48;refine(yc _ g i m _ (hg.ext (hE5.trans (zV hx))) hlr.out hi Hr.out).mono ?_;rintro e w1 ⟨rfl,hE1⟩;have hz1:=hE1.size_le;(try simp at hz1);(try(replace hk5:=hk5.ext hE1));refine hK _ _ ((hE1).bel _) ?_;clear hK hx;intro hx;refine jp ?_;iterate 2 (first|refine jTN hx ?_|refine jTS ?_)
  refine yl hx (fun K hK=> ?_);try(have hc5:=hk5.cell;have hf5:=hk5.froz)
  go_simp;refine hK _ jN ?_;clear hK hx;intro hx;refine zi ?_;rotate_left
  all_goals
   go_wp2;go_meet;refine⟨_,rfl,?_,hE5.trans (zV hx),by(first|omega|(simp;done)|(simp;omega))⟩
   first
    |exact Blk.new rfl
    |exact(hk5.set_ 0 _).set_ 1 _
 case rest=>
  obtain⟨q,rfl,kq,hEq,hq⟩:=hcut;have K2:=k2.ext hEq;have K3:=k3.ext hEq;have K4:=k4.ext hEq;have K5:=k5.ext hEq;have KO:=kO.ext hEq;have HG:=hG.ext hEq;have HE:=hE.trans hEq;have lt5:=k5.lt;have lt2:=K2.lt;have lt3:=K3.lt;have lt4:=K4.lt;have ltO:=KO.lt;have ltq:=kq.lt;have e1:q≠w.heap.size+1+1:=by omega
  have e2:q≠w.heap.size+1+1+1:=by omega
  have e3:q≠o:=by omega
  have e4:o≠w.heap.size+1+1:=by omega
  have e5:o≠w.heap.size+1+1+1:=by omega
  have e6:w.heap.size+1≠o:=by omega
  have e7:w.heap.size≠o:=by omega
  clear q0' q1' lq' z5 l2 l3 hE5;have C2:=K2.cell;have C3:=K3.cell;have C4:=K4.cell;have C5:=K5.cell;have CO:=KO.cell;have Cq:=kq.cell;have F4:=K4.froz;have F5:=K5.froz;obtain⟨bD,oD,u,rfl,hu,hcell⟩:=hR.at_ hk;rw[xq Hz.out]at hu;injection hu with hu;subst hu;have lD:=zh hcell;replace hcell:=zp HE hcell;have d1:bD≠w.heap.size+1+1:=by omega
  have d2:bD≠w.heap.size+1+1+1:=by omega
  have lD':=zh hcell;clear d1 d2;go_wp2;obtain⟨cF4,cF5⟩:=qZ (n:=w.heap.size) (.slice A1 g.ns.length a1) (.slice B1 g.us.length b1) (.slice C1 g.rs.length c1) (.int .i64 0) (.int .u64 (0)) (K4) (K5);exact bodyPost_ret (v:= .tuple #[.agg #[.slice A1 g.ns.length a1,.slice B1 g.us.length b1,.slice C1 g.rs.length c1],.agg #[.int .i64 0,.int .u64 (0)]]) (by simp[results,Tryz.results21,go_sem,cF4,cF5]) rfl ⟨_,rfl,zcc hSb (HG),x9 (HE)⟩
theorem zpz(v:Value)(g:Gr)(d:Int)(i m k:Nat)(x:List Int×List Int)(w:World){S:List Nat}(hSb: ∀x∈S,x<w.heap.size)(hg0:GRx S w v g)(hv:Vld g)(hb:Bd g)(hi:i<32)(hu:g.us[i]? =some true)(hr:g.rs[i]? =some (m:Int))(hx0:g.ns[m]? =some x)(hk:k<x.1.length)(hn:x.1.getD k 0≠ -1)(hf: ¬yI g.us<32):
 Calls Tryz.prog 21 #[v,.agg #[.int .i64 2,.int .i64 ((i:Int)+1),.int .i64 k,.int .i64 d]] w (xf S w (xh g m 2 ((i:Int)+1) k d)):=by
 obtain⟨z,hz⟩: ∃z,x.1[k]? =some z:=⟨_,List.getElem?_eq_getElem hk⟩;have hz1:=(List.getElem?_eq_some_iff.1 hz).2;have hz2:x.1.getD k 0=z:=by rw[List.getD_eq_getElem?_getD,hz];rfl
 have hz3:x.1[k]?.getD 0=z:=by rw[hz];rfl
 rw[hz2]at hn
 have ht:xh g m 2 ((i:Int)+1) k d=(g,15,0):=by
  simp[xh,List.getD_eq_getElem?_getD,hx0,Nat.not_le.2 hk,show¬((k:Int)<0) by omega,hz3,hn,hf]
 have zt:(z==(-1:Int))=false:=by simpa using hn
 have Hf:=Lib.hid hf;rw[ht];clear ht hz1 hz2 hz3 hn hf;have Hz:=Lib.hid hz;have kd1:decide ((k:Int)<0)=false:=by simp
 have kd2:decide ((x.1.length:Int)<=k)=false:=by simp;omega
 have kd3:decide (x.1.length<=k)=false:=by simp;omega
 have kb1:(k:Int)<x.1.length:=by omega
 clear hz;have hg:=hg0.rd;have hlu:=Lib.hid hv.lu;have hlr:=Lib.hid hv.lr;have ha0:=xi g i true true hi hu;have ha1:(yi g ((i:Int)+1) true==0)=true:=by rw[ha0];rfl
 have ha2:(yi g ((i:Int)+1) true !=0)=false:=by rw[ha0];rfl
 have hm:=(List.getElem?_eq_some_iff.1 hx0).1;have hmb:(m:Int)<g.ns.length:=by omega
 have hn:=hv.nd m x hx0;have hn1:=hn.1;have hn2:=hn.2.1;have Hr:=Lib.hid hr;have Hx:=Lib.hid hx0;have Hn:=Lib.hid hn;have Hu:=Lib.hid hu;have b1:(i:Int)+1-1=i:=by omega
 clear ha0 hv hu hr hx0 hn;obtain⟨A0,a0,B0,b0,C0,c0,rfl⟩:=hg.sl;go_enter Tryz.func21,Tryz.ntmps21;go_upto_region 2 with(go_at_call 43;refine(ym _ g _ (hg.ext jX) hb).mono ?_;rintro e w1 ⟨vA,vB,vC,qs,rfl,hG,hE1⟩;obtain⟨A1,a1,rfl⟩:=own_slice hG.nodes;obtain⟨B1,b1,rfl⟩:=own_slice hG.used;obtain⟨C1,c1,rfl⟩:=own_slice hG.roots;have kO:Blk (w1.alloc (.cells #[.slice none 0 0,.slice none 0 0,.slice none 0 0] 41)) w1.heap.size 41 #[.slice none 0 0,.slice none 0 0,.slice none 0 0]:=Blk.new rfl;have cO:=kO.cell;have fO:=kO.froz);clear kO cO fO;have hS:=yt hg hE1 hG;clear hE1 hG hg;obtain⟨k2,k3,k4,k5,kO,hG,hg,hE,hlo,hhi⟩:=hS;generalize hW:w1.alloc (.cells #[.slice A1 g.ns.length a1,.slice B1 g.us.length b1,.slice C1 g.rs.length c1] 41)=W at*;clear hW;generalize w1.heap.size=o at*;clear w1;have m2:=k2.cell;have m3:=k3.cell;have mO:=kO.cell;have f4:=k4.froz;have f5:=k5.froz;have n4:w.heap.size+1+1≠o:=by omega
 have n5:w.heap.size+1+1+1≠o:=by omega
 obtain⟨ba,oa,R,cR,D,cD,rfl,q0,q1,hR,hD,lq⟩:=hg0.rd.node Hx.out;replace q0:=zp hE q0;replace q1:=zp hE q1;go_upto_region 41 with(first|(go_at_call 47;refine(ya _ g _ _ _ (hg.ext jX) hlu.out).mono ?_;rintro e w1 ⟨rfl,hE3⟩;have hE4:Ext W w1:=jX;have m2':=(k2.ext hE4).cell;have m3':=(k3.ext hE4).cell;have mO':=(kO.ext hE4).cell));obtain⟨W5,rfl⟩: ∃W5,W5=w1:=⟨_,rfl⟩;have hE5:Ext W W5:=jX;have q0':=zp hE5 q0;have q1':=zp hE5 q1;have lq':=zh q0';have z5:=hE5.size_le;have l2:=(k2.ext hE5).lt;have l3:=(k3.ext hE5).lt;go_cut [13] (fun t wx=> ∃q,t= .pointer (some ⟨q,0,none⟩)∧Blk wx q 106 #[.slice R x.1.length cR,.slice D x.2.length cD]∧Ext W wx∧W.heap.size<=q)
 case first=>
  refine zn (W5.heap.size) [] (.take 0 (.take 1 (.take 2 (.take 3 (.take 4 (.alt 5 (.take 6 (.take 7 (.alt 8 (.alt 9 .done .none) .none))) (.alt 8 (.alt 5 (.take 6 (.take 7 (.alt 9 .done .none))) .none) .none))))))) Tryz.mixed (by kernel_rfl) ?_;intro hx;iterate 5 (first|refine jTN hx ?_|refine jTS ?_)
  refine jCN hx (fun K hK=> ?_) ?_;go_simp;go_at_call 48;refine(yc _ g i m _ (hg.ext (hE5.trans (zV hx))) hlr.out hi Hr.out).mono ?_;rintro e w1 ⟨rfl,hE1⟩;have hz1:=hE1.size_le;(try simp at hz1);(try(replace hk5:=hk5.ext hE1));refine hK _ _ ((hE1).bel _) ?_;clear hK hx;intro hx;refine jp ?_;iterate 2 (first|refine jTN hx ?_|refine jTS ?_)
  refine jTC (fun K hK=> ?_);go_simp;first|refine hK _ _ jN ?_|refine hK undef _ jN ?_
  clear hK;intro hr;(try have hk5:=zI hr);(try have hk5:=zE hr);replace hx:=hx.trans hr;clear hr;refine jp ?_;refine yl hx (fun K hK=> ?_);try(have hc5:=hk5.cell;have hf5:=hk5.froz)
  go_simp;refine hK _ jN ?_;clear hK hx;intro hx;refine zi ?_;rotate_left;refine jTC (fun K hK=> ?_);go_simp;first|refine hK _ _ jN ?_|refine hK undef _ jN ?_
  clear hK;intro hr;(try have hk5:=zI hr);(try have hk5:=zE hr);replace hx:=hx.trans hr;clear hr;refine jp ?_;refine jCN hx (fun K hK=> ?_);go_simp;go_at_call 48;refine(yc _ g i m _ (hg.ext (hE5.trans (zV hx))) hlr.out hi Hr.out).mono ?_;rintro e w1 ⟨rfl,hE1⟩;have hz1:=hE1.size_le;(try simp at hz1);(try(replace hk5:=hk5.ext hE1));refine hK _ _ ((hE1).bel _) ?_;clear hK hx;intro hx;refine jp ?_;iterate 2 (first|refine jTN hx ?_|refine jTS ?_)
  refine yl hx (fun K hK=> ?_);try(have hc5:=hk5.cell;have hf5:=hk5.froz)
  go_simp;refine hK _ jN ?_;clear hK hx;intro hx;refine zi ?_;rotate_left
  all_goals
   go_wp2;go_meet;refine⟨_,rfl,?_,hE5.trans (zV hx),by(first|omega|(simp;done)|(simp;omega))⟩
   first
    |exact Blk.new rfl
    |exact(hk5.set_ 0 _).set_ 1 _
 case rest=>
  obtain⟨q,rfl,kq,hEq,hq⟩:=hcut;have K2:=k2.ext hEq;have K3:=k3.ext hEq;have K4:=k4.ext hEq;have K5:=k5.ext hEq;have KO:=kO.ext hEq;have HG:=hG.ext hEq;have HE:=hE.trans hEq;have lt5:=k5.lt;have lt2:=K2.lt;have lt3:=K3.lt;have lt4:=K4.lt;have ltO:=KO.lt;have ltq:=kq.lt;have e1:q≠w.heap.size+1+1:=by omega
  have e2:q≠w.heap.size+1+1+1:=by omega
  have e3:q≠o:=by omega
  have e4:o≠w.heap.size+1+1:=by omega
  have e5:o≠w.heap.size+1+1+1:=by omega
  have e6:w.heap.size+1≠o:=by omega
  have e7:w.heap.size≠o:=by omega
  clear q0' q1' lq' z5 l2 l3 hE5;have C2:=K2.cell;have C3:=K3.cell;have C4:=K4.cell;have C5:=K5.cell;have CO:=KO.cell;have Cq:=kq.cell;have F4:=K4.froz;have F5:=K5.froz;obtain⟨bD,oD,u,rfl,hu,hcell⟩:=hR.at_ hk;rw[xq Hz.out]at hu;injection hu with hu;subst hu;have lD:=zh hcell;replace hcell:=zp HE hcell;have d1:bD≠w.heap.size+1+1:=by omega
  have d2:bD≠w.heap.size+1+1+1:=by omega
  have lD':=zh hcell;go_wp2_with(first|(go_at_call 44;refine(yW _ g _ _ (hg.ext jX)).mono ?_;rintro e w1 ⟨rfl,hEf⟩;have hE2:Ext W w1:=jX;have m4':=(k4.ext hE2).cell;have m5':=(k5.ext hE2).cell;have f4':=(k4.ext hE2).froz;have f5':=(k5.ext hE2).froz)|(go_at_call 45;refine(zdm _ g _ (hg.ext jX) hlu.out Hf.out).mono ?_;rintro e w1 ⟨rfl,hE3⟩;have hE4:Ext W w1:=jX;have m2':=(k2.ext hE4).cell;have m3':=(k3.ext hE4).cell;have mO':=(kO.ext hE4).cell));obtain⟨cF4,cF5⟩:=qZ (n:=w.heap.size) (.slice (some ⟨ba,oa,none⟩) g.ns.length a0) (.slice B0 g.us.length b0) (.slice C0 g.rs.length c0) (.int .i64 (15)) (.int .u64 0) (k4.ext hE2) (k5.ext hE2);exact bodyPost_ret (v:= .tuple #[.agg #[.slice (some ⟨ba,oa,none⟩) g.ns.length a0,.slice B0 g.us.length b0,.slice C0 g.rs.length c0],.agg #[.int .i64 (15),.int .u64 0]]) (by simp[results,Tryz.results21,go_sem,cF4,cF5]) rfl ⟨_,rfl,hg0.ext (x9 (hE.trans hE2)),x9 (hE.trans hE2)⟩
theorem zp0(v:Value)(g:Gr)(d:Int)(i m k:Nat)(x:List Int×List Int)(w:World){S:List Nat}(hSb: ∀x∈S,x<w.heap.size)(hg0:GRx S w v g)(hv:Vld g)(hb:Bd g)(hi:i<32)(hu:g.us[i]? =some true)(hr:g.rs[i]? =some (m:Int))(hx0:g.ns[m]? =some x)(hk:k<x.1.length)(hn:x.1.getD k 0≠ -1)(hf:yI g.us<32):
 Calls Tryz.prog 21 #[v,.agg #[.int .i64 2,.int .i64 ((i:Int)+1),.int .i64 k,.int .i64 d]] w (xf S w (xh g m 2 ((i:Int)+1) k d)):=by
 obtain⟨z,hz⟩: ∃z,x.1[k]? =some z:=⟨_,List.getElem?_eq_getElem hk⟩;have hz1:=(List.getElem?_eq_some_iff.1 hz).2;have hz2:x.1.getD k 0=z:=by rw[List.getD_eq_getElem?_getD,hz];rfl
 have hz3:x.1[k]?.getD 0=z:=by rw[hz];rfl
 rw[hz2]at hn;obtain⟨f,hfe⟩: ∃f,yI g.us=f:=⟨_,rfl⟩;have hf32:f<32:=by omega
 have ht:xh g m 2 ((i:Int)+1) k d=(⟨g.ns,g.us.set f true,g.rs.set f z⟩,0,(f:Int)+1):=by
  simp[xh,List.getD_eq_getElem?_getD,hx0,Nat.not_le.2 hk,show¬((k:Int)<0) by omega,hz3,hn,hf,hfe,hf32]
 have zt:(z==(-1:Int))=false:=by simpa using hn
 have hfu:=zca (us:=g.us) (by rw[hv.lu];exact hf);rw[hfe]at hf hfu;obtain⟨rf,hfr⟩: ∃rf,g.rs[f]? =some rf:=⟨_,List.getElem?_eq_getElem (by rw[hv.lr];exact hf)⟩;have Hfe:=Lib.hid hfe;have Hfu:=Lib.hid hfu;have Hfr:=Lib.hid hfr;have ft:((f:Int)+1==0)=false:=by simp;omega
 have fb:(f:Int)+1-1=f:=by omega
 rw[ht];clear ht hz1 hz2 hz3 hn hfe hfu hfr;have Hz:=Lib.hid hz;have kd1:decide ((k:Int)<0)=false:=by simp
 have kd2:decide ((x.1.length:Int)<=k)=false:=by simp;omega
 have kd3:decide (x.1.length<=k)=false:=by simp;omega
 have kb1:(k:Int)<x.1.length:=by omega
 clear hz;have hg:=hg0.rd;have hlu:=Lib.hid hv.lu;have hlr:=Lib.hid hv.lr;have ha0:=xi g i true true hi hu;have ha1:(yi g ((i:Int)+1) true==0)=true:=by rw[ha0];rfl
 have ha2:(yi g ((i:Int)+1) true !=0)=false:=by rw[ha0];rfl
 have hm:=(List.getElem?_eq_some_iff.1 hx0).1;have hmb:(m:Int)<g.ns.length:=by omega
 have hn:=hv.nd m x hx0;have hn1:=hn.1;have hn2:=hn.2.1;have Hr:=Lib.hid hr;have Hx:=Lib.hid hx0;have Hn:=Lib.hid hn;have Hu:=Lib.hid hu;have b1:(i:Int)+1-1=i:=by omega
 clear ha0 hv hu hr hx0 hn;obtain⟨A0,a0,B0,b0,C0,c0,rfl⟩:=hg.sl;go_enter Tryz.func21,Tryz.ntmps21;go_upto_region 2 with(go_at_call 43;refine(ym _ g _ (hg.ext jX) hb).mono ?_;rintro e w1 ⟨vA,vB,vC,qs,rfl,hG,hE1⟩;obtain⟨A1,a1,rfl⟩:=own_slice hG.nodes;obtain⟨B1,b1,rfl⟩:=own_slice hG.used;obtain⟨C1,c1,rfl⟩:=own_slice hG.roots;have kO:Blk (w1.alloc (.cells #[.slice none 0 0,.slice none 0 0,.slice none 0 0] 41)) w1.heap.size 41 #[.slice none 0 0,.slice none 0 0,.slice none 0 0]:=Blk.new rfl;have cO:=kO.cell;have fO:=kO.froz);clear kO cO fO;have hS:=yt hg hE1 hG;clear hE1 hG hg;obtain⟨k2,k3,k4,k5,kO,hG,hg,hE,hlo,hhi⟩:=hS;generalize hW:w1.alloc (.cells #[.slice A1 g.ns.length a1,.slice B1 g.us.length b1,.slice C1 g.rs.length c1] 41)=W at*;clear hW;generalize w1.heap.size=o at*;clear w1;have m2:=k2.cell;have m3:=k3.cell;have mO:=kO.cell;have f4:=k4.froz;have f5:=k5.froz;have n4:w.heap.size+1+1≠o:=by omega
 have n5:w.heap.size+1+1+1≠o:=by omega
 obtain⟨ba,oa,R,cR,D,cD,rfl,q0,q1,hR,hD,lq⟩:=hg0.rd.node Hx.out;replace q0:=zp hE q0;replace q1:=zp hE q1;go_upto_region 41 with(first|(go_at_call 47;refine(ya _ g _ _ _ (hg.ext jX) hlu.out).mono ?_;rintro e w1 ⟨rfl,hE3⟩;have hE4:Ext W w1:=jX;have m2':=(k2.ext hE4).cell;have m3':=(k3.ext hE4).cell;have mO':=(kO.ext hE4).cell));obtain⟨W5,rfl⟩: ∃W5,W5=w1:=⟨_,rfl⟩;have hE5:Ext W W5:=jX;have q0':=zp hE5 q0;have q1':=zp hE5 q1;have lq':=zh q0';have z5:=hE5.size_le;have l2:=(k2.ext hE5).lt;have l3:=(k3.ext hE5).lt;go_cut [13] (fun t wx=> ∃q,t= .pointer (some ⟨q,0,none⟩)∧Blk wx q 106 #[.slice R x.1.length cR,.slice D x.2.length cD]∧Ext W wx∧W.heap.size<=q)
 case first=>
  refine zn (W5.heap.size) [] (.take 0 (.take 1 (.take 2 (.take 3 (.take 4 (.alt 5 (.take 6 (.take 7 (.alt 8 (.alt 9 .done .none) .none))) (.alt 8 (.alt 5 (.take 6 (.take 7 (.alt 9 .done .none))) .none) .none))))))) Tryz.mixed (by kernel_rfl) ?_;intro hx;iterate 5 (first|refine jTN hx ?_|refine jTS ?_)
  refine jCN hx (fun K hK=> ?_) ?_;go_simp;go_at_call 48;refine(yc _ g i m _ (hg.ext (hE5.trans (zV hx))) hlr.out hi Hr.out).mono ?_;rintro e w1 ⟨rfl,hE1⟩;have hz1:=hE1.size_le;(try simp at hz1);(try(replace hk5:=hk5.ext hE1));refine hK _ _ ((hE1).bel _) ?_;clear hK hx;intro hx;refine jp ?_;iterate 2 (first|refine jTN hx ?_|refine jTS ?_)
  refine jTC (fun K hK=> ?_);go_simp;first|refine hK _ _ jN ?_|refine hK undef _ jN ?_
  clear hK;intro hr;(try have hk5:=zI hr);(try have hk5:=zE hr);replace hx:=hx.trans hr;clear hr;refine jp ?_;refine yl hx (fun K hK=> ?_);try(have hc5:=hk5.cell;have hf5:=hk5.froz)
  go_simp;refine hK _ jN ?_;clear hK hx;intro hx;refine zi ?_;rotate_left;refine jTC (fun K hK=> ?_);go_simp;first|refine hK _ _ jN ?_|refine hK undef _ jN ?_
  clear hK;intro hr;(try have hk5:=zI hr);(try have hk5:=zE hr);replace hx:=hx.trans hr;clear hr;refine jp ?_;refine jCN hx (fun K hK=> ?_);go_simp;go_at_call 48;refine(yc _ g i m _ (hg.ext (hE5.trans (zV hx))) hlr.out hi Hr.out).mono ?_;rintro e w1 ⟨rfl,hE1⟩;have hz1:=hE1.size_le;(try simp at hz1);(try(replace hk5:=hk5.ext hE1));refine hK _ _ ((hE1).bel _) ?_;clear hK hx;intro hx;refine jp ?_;iterate 2 (first|refine jTN hx ?_|refine jTS ?_)
  refine yl hx (fun K hK=> ?_);try(have hc5:=hk5.cell;have hf5:=hk5.froz)
  go_simp;refine hK _ jN ?_;clear hK hx;intro hx;refine zi ?_;rotate_left
  all_goals
   go_wp2;go_meet;refine⟨_,rfl,?_,hE5.trans (zV hx),by(first|omega|(simp;done)|(simp;omega))⟩
   first
    |exact Blk.new rfl
    |exact(hk5.set_ 0 _).set_ 1 _
 case rest=>
  obtain⟨q,rfl,kq,hEq,hq⟩:=hcut;have K2:=k2.ext hEq;have K3:=k3.ext hEq;have K4:=k4.ext hEq;have K5:=k5.ext hEq;have KO:=kO.ext hEq;have HG:=hG.ext hEq;have HE:=hE.trans hEq;have lt5:=k5.lt;have lt2:=K2.lt;have lt3:=K3.lt;have lt4:=K4.lt;have ltO:=KO.lt;have ltq:=kq.lt;have e1:q≠w.heap.size+1+1:=by omega
  have e2:q≠w.heap.size+1+1+1:=by omega
  have e3:q≠o:=by omega
  have e4:o≠w.heap.size+1+1:=by omega
  have e5:o≠w.heap.size+1+1+1:=by omega
  have e6:w.heap.size+1≠o:=by omega
  have e7:w.heap.size≠o:=by omega
  clear q0' q1' lq' z5 l2 l3 hE5;have C2:=K2.cell;have C3:=K3.cell;have C4:=K4.cell;have C5:=K5.cell;have CO:=KO.cell;have Cq:=kq.cell;have F4:=K4.froz;have F5:=K5.froz;obtain⟨bD,oD,u,rfl,hu,hcell⟩:=hR.at_ hk;rw[xq Hz.out]at hu;injection hu with hu;subst hu;have lD:=zh hcell;replace hcell:=zp HE hcell;have d1:bD≠w.heap.size+1+1:=by omega
  have d2:bD≠w.heap.size+1+1+1:=by omega
  have lD':=zh hcell;go_upto_region 71 with(first|(go_at_call 45;refine(zdn _ g f _ (hg.ext jX) hlu.out hf Hfe.out).mono ?_;rintro e w1 ⟨rfl,hE3⟩));obtain⟨wd,rfl⟩: ∃wd,wd=w1:=⟨_,rfl⟩;have hEq2:Ext wc wd:=jX;replace HG:=HG.ext hEq2;replace HE:=HE.trans hEq2;replace K2:=K2.ext hEq2;replace K3:=K3.ext hEq2;replace K4:=K4.ext hEq2;replace K5:=K5.ext hEq2;replace KO:=KO.ext hEq2;clear C2 C3 C4 C5 CO Cq F4 F5 d1 d2;have CO:=KO.cell;have C4:=K4.cell;have C5:=K5.cell;have F4:=K4.froz;have F5:=K5.froz;obtain⟨bB,bC,rfl,rfl,t1,t2,t3,t4,t5⟩:=HG.tabs (by have:=hlu.out;omega) (by have:=hlr.out;omega);obtain⟨cB,fB⟩:=zz HG.used;obtain⟨cC,fC⟩:=zz HG.roots;have cBi:=cB f _ (zay Hfu.out);have cCi:=cC f _ (xq Hfr.out);have i1:f<g.us.length:=by have:=hlu.out;omega
  have i2:(f:Int)<g.us.length:=by omega
  have i3:f<g.rs.length:=by have:=hlr.out;omega
  have i4:(f:Int)<g.rs.length:=by omega
  have t6:bC≠bB:=fun e=>t1 e.symm
  have D1:o≠bB:=fun e=>t2 e.symm
  have D2:o≠bC:=fun e=>t3 e.symm
  have d3:w.heap.size+1≠bB:=by omega
  have d4:w.heap.size+1≠bC:=by omega
  have d5:w.heap.size+1+1≠bB:=by omega
  have d6:w.heap.size+1+1≠bC:=by omega
  have d7:w.heap.size+1+1+1≠bB:=by omega
  have d8:w.heap.size+1+1+1≠bC:=by omega
  clear cB cC;refine zM [bB,bC] (.take 0 (.take 1 (.take 2 (.take 3 (.take 4 (.take 5 (.take 6 (.take 7 (.take 8 (.take 9 (.alt 10 (.take 11 (.alt 12 .done .none)) .none))))))))))) Tryz.mixed (by kernel_rfl) ?_;intro hx hy;iterate 10 (first|refine jTB hx ?_|refine jTS ?_)
  refine kc hx (fun K hK=> ?_);have hcy:=Ext.cell hy;have hfy:=Ext.froz hy;go_simp;refine hK _ jB ?_;clear hK hx;intro hx;first|refine jTB hx ?_|refine jTS ?_
  refine kc hx (fun K hK=> ?_);have hcy:=Ext.cell hy;have hfy:=Ext.froz hy;go_simp;refine hK _ jB ?_;clear hK hx;intro hx;refine zi ?_;go_wp2;have K4':=(K4.far (p:=⟨bB,f,none⟩) d5 (.bool true)).far (p:=⟨bC,f,none⟩) d6 (.int .i64 z);have K5':=(K5.far (p:=⟨bB,f,none⟩) d7 (.bool true)).far (p:=⟨bC,f,none⟩) d8 (.int .i64 z);have HG':=(HG.setU rfl f true).setC rfl f z;have HE':=Ext.setCell (Ext.setCell HE (p:=⟨bB,f,none⟩) (by show w.heap.size<=bB;omega) (.bool true)) (p:=⟨bC,f,none⟩) (by show w.heap.size<=bC;omega) (.int .i64 z);obtain⟨cF4,cF5⟩:=qZ (n:=w.heap.size) (.slice A1 g.ns.length a1) (.slice (some ⟨bB,0,none⟩) g.us.length b1) (.slice (some ⟨bC,0,none⟩) g.rs.length c1) (.int .i64 0) (.int .u64 ((f:Int)+1)) (K4') (K5');exact bodyPost_ret (v:= .tuple #[.agg #[.slice A1 g.ns.length a1,.slice (some ⟨bB,0,none⟩) g.us.length b1,.slice (some ⟨bC,0,none⟩) g.rs.length c1],.agg #[.int .i64 0,.int .u64 ((f:Int)+1)]]) (by simp[results,Tryz.results21,go_sem,cF4,cF5]) rfl ⟨_,rfl,(zcc hSb (HG')).ext (Ext.drew (Ext.refl _)),Ext.drew (x9 (HE'))⟩
theorem zk6(v:Value)(g:Gr)(p q:Nat)(d:Int)(w:World){S:List Nat}(hSb: ∀x∈S,x<w.heap.size)(hg0:GRx S w v g)(hv:Vld g)(hb:Bd g)(hp:p<=15)(hq:q<=32)(hf: ¬yI g.us<32):
 Calls Tryz.prog 21 #[v,.agg #[.int .i64 1,.int .i64 p,.int .i64 q,.int .i64 d]] w (xf S w (g,15,0)):=by
 have hg:=hg0.rd;have hlu:=Lib.hid hv.lu;have Hf:=Lib.hid hf;clear hv hf;have s1:decide ((p:Int)<0)=false:=by simp
 have s2:decide ((q:Int)<0)=false:=by simp
 have s3:decide (15<(p:Int))=false:=by simp;omega
 have s4:decide (32<(q:Int))=false:=by simp;omega
 have s5:decide (15<p)=false:=by simp;omega
 have s6:decide (32<q)=false:=by simp;omega
 obtain⟨A0,a0,B0,b0,C0,c0,rfl⟩:=hg.sl;go_enter Tryz.func21,Tryz.ntmps21;go_upto_region 2 with(go_at_call 43;refine(ym _ g _ (hg.ext jX) hb).mono ?_;rintro e w1 ⟨vA,vB,vC,qs,rfl,hG,hE1⟩;obtain⟨A1,a1,rfl⟩:=own_slice hG.nodes;obtain⟨B1,b1,rfl⟩:=own_slice hG.used;obtain⟨C1,c1,rfl⟩:=own_slice hG.roots;have kO:Blk (w1.alloc (.cells #[.slice none 0 0,.slice none 0 0,.slice none 0 0] 41)) w1.heap.size 41 #[.slice none 0 0,.slice none 0 0,.slice none 0 0]:=Blk.new rfl;have cO:=kO.cell;have fO:=kO.froz);clear kO cO fO;have hS:=yt hg hE1 hG;clear hE1 hG hg;obtain⟨k2,k3,k4,k5,kO,hG,hg,hE,hlo,hhi⟩:=hS;generalize hW:w1.alloc (.cells #[.slice A1 g.ns.length a1,.slice B1 g.us.length b1,.slice C1 g.rs.length c1] 41)=W at*;clear hW;generalize w1.heap.size=o at*;clear w1;have m2:=k2.cell;have m3:=k3.cell;have mO:=kO.cell;have f4:=k4.froz;have f5:=k5.froz;have n4:w.heap.size+1+1≠o:=by omega
 have n5:w.heap.size+1+1+1≠o:=by omega
 go_wp2_with(first|(go_at_call 44;refine(yW _ g _ _ (hg.ext jX)).mono ?_;rintro e w1 ⟨rfl,hEf⟩;have hE2:Ext W w1:=jX;have m4':=(k4.ext hE2).cell;have m5':=(k5.ext hE2).cell;have f4':=(k4.ext hE2).froz;have f5':=(k5.ext hE2).froz)|(go_at_call 45;refine(zdm _ g _ (hg.ext jX) hlu.out Hf.out).mono ?_;rintro e w1 ⟨rfl,hE3⟩;have hE4:Ext W w1:=jX;have m2':=(k2.ext hE4).cell;have m3':=(k3.ext hE4).cell;have mO':=(kO.ext hE4).cell));obtain⟨cF4,cF5⟩:=qZ (n:=w.heap.size) (.slice A0 g.ns.length a0) (.slice B0 g.us.length b0) (.slice C0 g.rs.length c0) (.int .i64 (15)) (.int .u64 0) (k4.ext hE2) (k5.ext hE2);exact bodyPost_ret (v:= .tuple #[.agg #[.slice A0 g.ns.length a0,.slice B0 g.us.length b0,.slice C0 g.rs.length c0],.agg #[.int .i64 (15),.int .u64 0]]) (by simp[results,Tryz.results21,go_sem,cF4,cF5]) rfl ⟨_,rfl,hg0.ext (x9 (hE.trans hE2)),x9 (hE.trans hE2)⟩
theorem zh4(v:Value)(g:Gr)(p q:Nat)(d:Int)(w:World){S:List Nat}(hSb: ∀x∈S,x<w.heap.size)(hg0:GRx S w v g)(hv:Vld g)(hb:Bd g)(hp:p<=15)(hq:q<=32)(hf:yI g.us<32):
 Calls Tryz.prog 21 #[v,.agg #[.int .i64 1,.int .i64 p,.int .i64 q,.int .i64 d]] w (xf S w (⟨g.ns++ [(List.replicate p (-1),List.replicate q 0)],g.us.set (yI g.us) true,g.rs.set (yI g.us) g.ns.length⟩,0,(yI g.us:Int)+1)):=by
 have hg:=hg0.rd;have hlu:=Lib.hid hv.lu;have hlr:=Lib.hid hv.lr;have hfu:=zca (us:=g.us) (by rw[hv.lu];exact hf);obtain⟨f,hfe⟩: ∃f,yI g.us=f:=⟨_,rfl⟩;rw[hfe]at hf hfu|-;obtain⟨rf,hfr⟩: ∃rf,g.rs[f]? =some rf:=⟨_,List.getElem?_eq_getElem (by rw[hv.lr];exact hf)⟩;have Hfe:=Lib.hid hfe;have Hfu:=Lib.hid hfu;have Hfr:=Lib.hid hfr;have ft:((f:Int)+1==0)=false:=by simp;omega
 have fb:(f:Int)+1-1=f:=by omega
 have hn1:=hb.1;have mk:=fun W:World=>js (P:=Tryz.prog) Tryz.el47 rfl q (by omega) (by omega) W
 clear hv hfe hfu hfr;have s1:decide ((p:Int)<0)=false:=by simp
 have s2:decide ((q:Int)<0)=false:=by simp
 have s3:decide (15<(p:Int))=false:=by simp;omega
 have s4:decide (32<(q:Int))=false:=by simp;omega
 have s5:decide (15<p)=false:=by simp;omega
 have s6:decide (32<q)=false:=by simp;omega
 obtain⟨A0,a0,B0,b0,C0,c0,rfl⟩:=hg.sl;go_enter Tryz.func21,Tryz.ntmps21;go_upto_region 2 with(go_at_call 43;refine(ym _ g _ (hg.ext jX) hb).mono ?_;rintro e w1 ⟨vA,vB,vC,qs,rfl,hG,hE1⟩;obtain⟨A1,a1,rfl⟩:=own_slice hG.nodes;obtain⟨B1,b1,rfl⟩:=own_slice hG.used;obtain⟨C1,c1,rfl⟩:=own_slice hG.roots;have kO:Blk (w1.alloc (.cells #[.slice none 0 0,.slice none 0 0,.slice none 0 0] 41)) w1.heap.size 41 #[.slice none 0 0,.slice none 0 0,.slice none 0 0]:=Blk.new rfl;have cO:=kO.cell;have fO:=kO.froz);clear kO cO fO;have hS:=yt hg hE1 hG;clear hE1 hG hg;obtain⟨k2,k3,k4,k5,kO,hG,hg,hE,hlo,hhi⟩:=hS;generalize hW:w1.alloc (.cells #[.slice A1 g.ns.length a1,.slice B1 g.us.length b1,.slice C1 g.rs.length c1] 41)=W at*;clear hW;generalize w1.heap.size=o at*;clear w1;have m2:=k2.cell;have m3:=k3.cell;have mO:=kO.cell;have f4:=k4.froz;have f5:=k5.froz;have n4:w.heap.size+1+1≠o:=by omega
 have n5:w.heap.size+1+1+1≠o:=by omega
 go_upto_region 10 with(first|(go_at_call 45;refine(zdn _ g f _ (hg.ext jX) hlu.out hf Hfe.out).mono ?_;rintro e w1 ⟨rfl,hE3⟩;have hE4:Ext W w1:=jX;have m2':=(k2.ext hE4).cell;have m3':=(k3.ext hE4).cell;have mO':=(kO.ext hE4).cell));obtain⟨wd,rfl⟩: ∃wd,wd=w1:=⟨_,rfl⟩;have hEq:Ext W wd:=jX;have HG:=hG.ext hEq;have HE:=hE.trans hEq;have K3:=k3.ext hEq;have K4:=k4.ext hEq;have K5:=k5.ext hEq;have KO:=kO.ext hEq;clear m2 m3 mO f4 f5 m2' m3' mO' n4 n5;have C3:=K3.cell;have l3:=K3.lt;have lO:=KO.lt;go_upto_region 11 with fail;have hX6:Ext wd ((wd.alloc (.cells (Array.replicate q (Value.int .u64 0)) 67)).alloc (.cells #[.slice none 0 0,.slice (some ⟨wd.heap.size,0,none⟩) q q] 106)):=by exact jX
 have kN:Blk ((wd.alloc (.cells (Array.replicate q (Value.int .u64 0)) 67)).alloc (.cells #[.slice none 0 0,.slice (some ⟨wd.heap.size,0,none⟩) q q] 106)) (wd.heap.size+1) 106 #[.slice none 0 0,.slice (some ⟨wd.heap.size,0,none⟩) q q]:=Blk.new (by simp)
 have hD:((wd.alloc (.cells (Array.replicate q (Value.int .u64 0)) 67)).alloc (.cells #[.slice none 0 0,.slice (some ⟨wd.heap.size,0,none⟩) q q] 106)).ownsRow wd.heap.size 67 1 (.slice (some ⟨wd.heap.size,0,none⟩) q q) q (words (List.replicate q 0)):=z8 (by
  have:=qJ (base:=wd.heap.size) (w:=wd) (cs:=List.replicate q (Value.int .u64 0)) (e:=67) (size:=1) (n:=q) rfl (Nat.le_refl _) (by omega) (by simp);simpa[words]using this) _
 generalize hW6:(wd.alloc (.cells (Array.replicate q (Value.int .u64 0)) 67)).alloc (.cells #[.slice none 0 0,.slice (some ⟨wd.heap.size,0,none⟩) q q] 106)=W6 at hX6 kN hD|-;clear hW6;obtain⟨bd,hbd⟩: ∃bd,bd=wd.heap.size:=⟨_,rfl⟩;obtain⟨n,hn⟩: ∃n,n=wd.heap.size+1:=⟨_,rfl⟩;rw[<-hn,<-hbd]at kN;rw[<-hbd]at hD;rw[<-hn];have hn1':wd.heap.size+1<=n:=by omega
 have hn2':n<=wd.heap.size+1:=by omega
 have hb1':wd.heap.size<=bd:=by omega
 have hb2':bd<=wd.heap.size:=by omega
 clear C3 l3 lO hn hbd;have L3:=K3.lt;have n3:w.heap.size+1≠n:=by omega
 have hbn:bd≠n:=by omega
 have hnb:n≠bd:=by omega
 go_wp2_with fail;go_loopw [9] (fun i wr=> ∃(k:Nat) (R:Option Addr) (c:Nat),k<=p∧i= .int .i64 k∧Blk wr n 106 #[.slice R k c,.slice (some ⟨bd,0,none⟩) q q]∧wr.ownsRow (n+1) 3 1 (.slice R k c) k (yb (List.replicate k (-1)))∧wr.ownsRow bd 67 1 (.slice (some ⟨bd,0,none⟩) q q) q (words (List.replicate q 0))∧Ext wd wr) (fun i _=>p-(intOf i).toNat);case atStart=>exact⟨0,none,0,by omega,rfl,kN,zP _ _ _ _,hD,hX6⟩
 case round=>
  clear kN hD hX6;obtain⟨k,R,c,hk,rfl,kN,hR,hD,hX⟩:=hrel;have kP:=K3.ext hX;have cP:=kP.cell;have lN:=kN.lt;have cN:=kN.cell;have fN:=kN.froz;have lP:=kP.lt
  have hnR:n∉(Value.slice R k c).ownBlock.toList:=fun hm=>by
   have:=World.ownsRow.lt hR n (by simpa using hm);omega
  by_cases hlt:k<p
  ·have hdec:decide ((k:Int)<p)=true:=by simp;omega
   have hdec':decide (k<p)=true:=by simp;omega
   go_wp2_with(first|(at_builtin;refine zJ rfl Tryz.el22 _ _ rfl (n+1) _ _ _ rfl (zm hR jX) _ 1 1 _ rfl (yF _ [_] 3 1 1 rfl) (by simp[Value.oneCell']) (by omega) (by omega) (by(first|omega|(simp;done)|(simp;omega))) ?_;intro A2 c3 w3 hR3 hg3 hat3;have b3:But (Value.slice R k c).ownBlock.toList (wr.alloc (.cells #[.int .i64 (-1)] 3)) w3:=zL hg3;have kN3:=(kN.ext jX).but b3 hnR;have cN3:=kN3.cell;have fN3:=kN3.froz));go_roundw
   case rel=>
    have hRn: ∀q',(Value.slice R k c).ownBlock=some q'->n+1<=q':=fun q' hq'=>(World.ownsRow.lt hR q' hq').1
    have hR2: ∀q',(Value.slice A2 (k+1) c3).ownBlock=some q'->n+1<=q':=fun q' hq'=>(World.ownsRow.lt hR3 q' hq').1
    have hSn: ∀q'∈(Value.slice R k c).ownBlock.toList,n+1<=q':=fun q' hq'=>hRn q' (by simpa using hq')
    refine⟨k+1,A2,c3,by omega,by go_num,by simpa using kN3.set_ 0 (.slice A2 (k+1) c3),?_,?_,?_⟩
    ·rw[List.replicate_succ']
     have h3:w3.ownsRow (n+1) 3 1 (.slice A2 (k+1) c3) (k+1) (yb (List.replicate k (-1)++ [-1])):=by simpa[yb]using hR3
     exact zo h3 (But.setCell (S:= [n]) (But.refl _ _) (by simp) _) (fun q' hq' hm=>by have:=hR2 q' hq';have:=List.mem_singleton.1 hm;omega)
    ·refine zo (zo (z8 hD _) b3 (fun q' hq' hm=> ?_)) (But.setCell (S:= [n]) (But.refl _ _) (by simp) _) (fun q' hq' hm=> ?_)
     ·have:=hSn q' hm
      simp only[Value.ownBlock,Option.some.injEq]at hq';omega
     ·have:=List.mem_singleton.1 hm
      simp only[Value.ownBlock,Option.some.injEq]at hq';omega
    ·exact Ext.setCell (But.ext (Ext.alloc hX _) b3 (fun q' hq'=>by have:=hSn q' hq';omega)) (by show wd.heap.size<=n;omega) _
   case measure=>simp[intOf];omega
  ·have hdec:decide ((k:Int)<p)=false:=by simp;omega
   have hdec':decide (k<p)=false:=by simp;omega
   have hkp:k=p:=by omega
   subst hkp;have kQ:=KO.ext hX;have cQ:=kQ.cell;have lQ:=kQ.lt;have hoA:o∉(Value.slice A1 g.ns.length a1).ownBlock.toList:=fun hm=>HG.off .A (by simpa[kv]using hm)
   go_upto_region 16 with(first|(at_builtin;refine zJ rfl Tryz.el23 _ _ rfl (w.heap.size+4) _ _ _ rfl (zm HG.nodes jX) _ 1 1 _ rfl (yF _ [_,_] 106 1 2 rfl) (by simp[Value.oneCell']) (by omega) (by omega) (by(first|omega|(simp;done)|(simp;omega))) ?_;intro A2 c3 w3 hN3 hg3 hat3;have g3:(wr.alloc (.cells #[.slice R k c,.slice (some ⟨bd,0,none⟩) q q] 106)).grownBy w3 (Value.slice A1 g.ns.length a1).ownBlock:=hg3;have t3:(Value.slice A2 (g.ns.length+1) c3).ownBlock=(Value.slice A1 g.ns.length a1).ownBlock∨(Value.slice A2 (g.ns.length+1) c3).ownBlock=some (wr.alloc (.cells #[.slice R k c,.slice (some ⟨bd,0,none⟩) q q] 106)).heap.size:=hat3;have b3:=zL g3;have kO3:=(KO.ext jX).but b3 hoA;have cO3:=kO3.cell;have fO3:=kO3.froz));have lOd:=KO.lt;have hX3:Ext wd (wr.alloc (.cells #[.slice R k c,.slice (some ⟨bd,0,none⟩) q q] 106)):=Ext.alloc hX _;obtain⟨kO6,hG6⟩:=zgk (x:=(List.replicate k (-1),List.replicate q 0)) HG KO hX3 (vR:= .slice R k c) (vD:= .slice (some ⟨bd,0,none⟩) q q) (by simpa using hR) (by simpa using hD) (Ext.refl _) (Ext.alloc (Ext.refl _) _) (by omega) (by omega) (by omega) rfl hN3 g3 t3;have hA1: ∀q'∈(Value.slice A1 g.ns.length a1).ownBlock.toList,w.heap.size+4<=q':=fun q' hq'=>(HG.lt .A q' (by simpa[kv]using hq')).1
   have hE6:Ext w (w3.setCell ⟨o,0,none⟩ (.slice A2 (g.ns.length+1) c3)):=Ext.setCell (But.ext (HE.trans hX3) b3 (fun q' hq'=>by have:=hA1 q' hq';omega)) (by show w.heap.size<=o;omega) _;have K46:=(((K4.ext hX3).but b3 (fun hm=>by have:=hA1 _ hm;omega)).far (p:=⟨o,0,none⟩) (by show _≠o;omega) (.slice A2 (g.ns.length+1) c3));have K56:=(((K5.ext hX3).but b3 (fun hm=>by have:=hA1 _ hm;omega)).far (p:=⟨o,0,none⟩) (by show _≠o;omega) (.slice A2 (g.ns.length+1) c3));generalize w3.setCell ⟨o,0,none⟩ (.slice A2 (g.ns.length+1) c3)=WX at kO6 hG6 hE6 K46 K56|-;clear cO3 fO3 kO3 b3 g3 t3 hN3 hat3 hg3 cQ kQ cP kP cN fN kN hR hD;have CO:=kO6.cell;have C4:=K46.cell;have C5:=K56.cell;have F4:=K46.froz;have F5:=K56.froz;have lO6:=kO6.lt;obtain⟨bB,bC,rfl,rfl,t1,t2,t3,t4,t5⟩:=GOwn.tabs (g:=⟨g.ns++ [(List.replicate k (-1),List.replicate q 0)],g.us,g.rs⟩) hG6 (by show 0<g.us.length;have:=hlu.out;omega) (by show 0<g.rs.length;have:=hlr.out;omega);obtain⟨cB,fB⟩:=zz hG6.used;obtain⟨cC,fC⟩:=zz hG6.roots;have cBi:=cB f _ (zay Hfu.out);have cCi:=cC f _ (xq Hfr.out);have i1:f<g.us.length:=by have:=hlu.out;omega
   have i2:(f:Int)<g.us.length:=by omega
   have i3:f<g.rs.length:=by have:=hlr.out;omega
   have i4:(f:Int)<g.rs.length:=by omega
   have i5:(g.ns.length:Int)+1-1=g.ns.length:=by omega
   have t6:bC≠bB:=fun e=>t1 e.symm
   have D1:o≠bB:=fun e=>t2 e.symm
   have D2:o≠bC:=fun e=>t3 e.symm
   have d3:w.heap.size+1≠bB:=by omega
   have d4:w.heap.size+1≠bC:=by omega
   have d5:w.heap.size+1+1≠bB:=by omega
   have d6:w.heap.size+1+1≠bC:=by omega
   have d7:w.heap.size+1+1+1≠bB:=by omega
   have d8:w.heap.size+1+1+1≠bC:=by omega
   have d9:w.heap.size+1+1≠o:=by omega
   have d10:w.heap.size+1+1+1≠o:=by omega
   clear cB cC;go_wp2_with fail;refine zM [bB,bC] (.take 0 (.take 1 (.take 2 (.take 3 (.take 4 (.take 5 (.take 6 (.take 7 (.take 8 (.take 9 (.take 10 (.take 11 (.take 12 (.alt 13 (.take 14 (.alt 15 .done .none)) .none)))))))))))))) Tryz.mixed (by kernel_rfl) ?_;intro hx hy;iterate 13 (first|refine jTB hx ?_|refine jTS ?_)
   refine kc hx (fun K hK=> ?_);have hcy:=Ext.cell hy;have hfy:=Ext.froz hy;go_simp;refine hK _ jB ?_;clear hK hx;intro hx;first|refine jTB hx ?_|refine jTS ?_
   refine kc hx (fun K hK=> ?_);have hcy:=Ext.cell hy;have hfy:=Ext.froz hy;go_simp;refine hK _ jB ?_;clear hK hx;intro hx;refine zi ?_;go_wp2;have K4':=(K46.far (p:=⟨bB,f,none⟩) d5 (.bool true)).far (p:=⟨bC,f,none⟩) d6 (.int .i64 g.ns.length);have K5':=(K56.far (p:=⟨bB,f,none⟩) d7 (.bool true)).far (p:=⟨bC,f,none⟩) d8 (.int .i64 g.ns.length);have HG':=(hG6.setU rfl f true).setC rfl f g.ns.length;have HE':=Ext.setCell (Ext.setCell hE6 (p:=⟨bB,f,none⟩) (by show w.heap.size<=bB;omega) (.bool true)) (p:=⟨bC,f,none⟩) (by show w.heap.size<=bC;omega) (.int .i64 g.ns.length);obtain⟨cF4,cF5⟩:=qZ (n:=w.heap.size) (.slice A2 (g.ns.length+1) c3) (.slice (some ⟨bB,0,none⟩) g.us.length b1) (.slice (some ⟨bC,0,none⟩) g.rs.length c1) (.int .i64 0) (.int .u64 ((f:Int)+1)) K4' K5';exact bodyPost_ret (v:= .tuple #[.agg #[.slice A2 (g.ns.length+1) c3,.slice (some ⟨bB,0,none⟩) g.us.length b1,.slice (some ⟨bC,0,none⟩) g.rs.length c1],.agg #[.int .i64 0,.int .u64 ((f:Int)+1)]]) (by simp[results,Tryz.results21,go_sem,cF4,cF5]) rfl ⟨_,rfl,(zcc hSb HG').ext (Ext.drew (Ext.refl _)),Ext.drew (x9 HE')⟩
end Go.Proofs.YtopcdfbplknmlaaGreat.Mo
