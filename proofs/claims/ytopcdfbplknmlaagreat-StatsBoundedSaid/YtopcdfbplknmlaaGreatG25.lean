/- Part of the proof of the claim: walks and plain laws; each theorem states its own conditions. -/
import Derived.Test.YtopcdfbplknmlaaGreatL
import Derived.Test.YtopcdfbplknmlaaGreatG23
set_option linter.all false
set_option maxHeartbeats 2000000
set_option maxRecDepth 100000
namespace Go.Proofs.YtopcdfbplknmlaaGreat.Mo
open Go.RowKit Go.Draw
theorem zrd(v:Value)(g:Gr)(a b d:Int)(w:World){S:List Nat}(hSb: ∀x∈S,x<w.heap.size)(hg0:GRx S w v g)(hv:Vld g)(hb:Bd g):
 Calls Tryz.prog 21 #[v,.agg #[.int .i64 6,.int .i64 a,.int .i64 b,.int .i64 d]] w (xf S w (doT g 6 a b d)):=by
 have hg:=hg0.rd;have hlu:=Lib.hid hv.lu;have hlr:=Lib.hid hv.lr;by_cases ha:yi g a false=0
 ·have ha1:(yi g a false==0)=true:=by simpa using ha
  have ha2:(yi g a false !=0)=false:=by simpa using ha
  by_cases hbb:yi g b false=0
  ·have hb1:(yi g b false==0)=true:=by simpa using hbb
   have hb2:(yi g b false !=0)=false:=by simpa using hbb
   have ra:0<=a∧a<=32:=by rcases jE hv.lu ha with⟨h,_⟩|⟨i,h,h2,_⟩<;>omega
   have rb:0<=b∧b<=32:=by rcases jE hv.lu hbb with⟨h,_⟩|⟨i,h,h2,_⟩<;>omega
   have ht:doT g 6 a b d=(g,0,if hNd g a=hNd g b then 1 else 0):=by simp[doT,ha,hbb]
   clear hv ha hbb;by_cases he:hNd g a=hNd g b
   ·rw[if_pos he]at ht
    rw[ht];clear ht;have he1:(hNd g a==hNd g b)=true:=by simpa using he
    have He:=Lib.hid he;clear he;obtain⟨A0,a0,B0,b0,C0,c0,rfl⟩:=hg.sl;go_enter Tryz.func21,Tryz.ntmps21;go_upto_region 2 with(go_at_call 43;refine(ym _ g _ (hg.ext jX) hb).mono ?_;rintro e w1 ⟨vA,vB,vC,qs,rfl,hG,hE1⟩;obtain⟨A1,a1,rfl⟩:=own_slice hG.nodes;obtain⟨B1,b1,rfl⟩:=own_slice hG.used;obtain⟨C1,c1,rfl⟩:=own_slice hG.roots;have kO:Blk (w1.alloc (.cells #[.slice none 0 0,.slice none 0 0,.slice none 0 0] 41)) w1.heap.size 41 #[.slice none 0 0,.slice none 0 0,.slice none 0 0]:=Blk.new rfl;have cO:=kO.cell;have fO:=kO.froz);clear kO cO fO;have hS:=yt hg hE1 hG;clear hE1 hG hg;obtain⟨k2,k3,k4,k5,kO,hG,hg,hE,hlo,hhi⟩:=hS;generalize hW:w1.alloc (.cells #[.slice A1 g.ns.length a1,.slice B1 g.us.length b1,.slice C1 g.rs.length c1] 41)=W at*;clear hW;generalize w1.heap.size=o at*;clear w1;have m2:=k2.cell;have m3:=k3.cell;have mO:=kO.cell;have f4:=k4.froz;have f5:=k5.froz;have n4:w.heap.size+1+1≠o:=by omega
    have n5:w.heap.size+1+1+1≠o:=by omega
    go_wp2_with(first|(go_at_call 44;refine(yW _ g _ _ (hg.ext jX)).mono ?_;rintro e w1 ⟨rfl,hEf⟩;have hE2:Ext W w1:=jX;have m4':=(k4.ext hE2).cell;have m5':=(k5.ext hE2).cell;have f4':=(k4.ext hE2).froz;have f5':=(k5.ext hE2).froz)|(go_at_call 47;refine(ya _ g _ _ _ (hg.ext jX) hlu.out).mono ?_;rintro e w1 ⟨rfl,hE3⟩;have hE4:Ext W w1:=jX;have m2':=(k2.ext hE4).cell;have m3':=(k3.ext hE4).cell;have mO':=(kO.ext hE4).cell));refine jRE [(true,0),(true,1),(true,2),(true,4),(true,5),(true,6),(false,3),(false,7),(true,8)] Tryz.mixed fun hx=> ?_
    repeat(first
     |refine jLE hx ?_
     |refine jLS ?_
     |(refine yo hx (fun K hK=> ?_);go_simp;go_at_call 48;refine(ji _ g _ _ (hg.ext jX) hlr.out (by assumption)).mono ?_;rintro e w1 ⟨rfl,hE9⟩;refine hK _ _ (hE9) ?_;clear hK hx;intro hx;refine jq ?_)
     |(refine yo hx (fun K hK=> ?_);go_simp;(first|refine hK _ _ jX ?_|refine hK undef _ jX ?_);clear hK hx;intro hx;try refine jq ?_))
    refine zH ?_;have hE7:Ext W w1:=jX;have m4:=(k4.ext hE7).cell;have m5:=(k5.ext hE7).cell;have mO':=(kO.ext hE7).cell;have f4':=(k4.ext hE7).froz;have f5':=(k5.ext hE7).froz;go_wp2;obtain⟨cF4,cF5⟩:=qZ (n:=w.heap.size) (.slice A1 g.ns.length a1) (.slice B1 g.us.length b1) (.slice C1 g.rs.length c1) (.int .i64 0) (.int .u64 (1)) (k4.ext hE7) (k5.ext hE7);exact bodyPost_ret (v:= .tuple #[.agg #[.slice A1 g.ns.length a1,.slice B1 g.us.length b1,.slice C1 g.rs.length c1],.agg #[.int .i64 0,.int .u64 (1)]]) (by simp[results,Tryz.results21,go_sem,cF4,cF5]) rfl ⟨_,rfl,zcc hSb (hG.ext hE7),x9 (hE.trans hE7)⟩
   ·rw[if_neg he]at ht
    rw[ht];clear ht;have he1:(hNd g a==hNd g b)=false:=by simpa using he
    have He:=Lib.hid he;clear he;obtain⟨A0,a0,B0,b0,C0,c0,rfl⟩:=hg.sl;go_enter Tryz.func21,Tryz.ntmps21;go_upto_region 2 with(go_at_call 43;refine(ym _ g _ (hg.ext jX) hb).mono ?_;rintro e w1 ⟨vA,vB,vC,qs,rfl,hG,hE1⟩;obtain⟨A1,a1,rfl⟩:=own_slice hG.nodes;obtain⟨B1,b1,rfl⟩:=own_slice hG.used;obtain⟨C1,c1,rfl⟩:=own_slice hG.roots;have kO:Blk (w1.alloc (.cells #[.slice none 0 0,.slice none 0 0,.slice none 0 0] 41)) w1.heap.size 41 #[.slice none 0 0,.slice none 0 0,.slice none 0 0]:=Blk.new rfl;have cO:=kO.cell;have fO:=kO.froz);clear kO cO fO;have hS:=yt hg hE1 hG;clear hE1 hG hg;obtain⟨k2,k3,k4,k5,kO,hG,hg,hE,hlo,hhi⟩:=hS;generalize hW:w1.alloc (.cells #[.slice A1 g.ns.length a1,.slice B1 g.us.length b1,.slice C1 g.rs.length c1] 41)=W at*;clear hW;generalize w1.heap.size=o at*;clear w1;have m2:=k2.cell;have m3:=k3.cell;have mO:=kO.cell;have f4:=k4.froz;have f5:=k5.froz;have n4:w.heap.size+1+1≠o:=by omega
    have n5:w.heap.size+1+1+1≠o:=by omega
    go_wp2_with(first|(go_at_call 44;refine(yW _ g _ _ (hg.ext jX)).mono ?_;rintro e w1 ⟨rfl,hEf⟩;have hE2:Ext W w1:=jX;have m4':=(k4.ext hE2).cell;have m5':=(k5.ext hE2).cell;have f4':=(k4.ext hE2).froz;have f5':=(k5.ext hE2).froz)|(go_at_call 47;refine(ya _ g _ _ _ (hg.ext jX) hlu.out).mono ?_;rintro e w1 ⟨rfl,hE3⟩;have hE4:Ext W w1:=jX;have m2':=(k2.ext hE4).cell;have m3':=(k3.ext hE4).cell;have mO':=(kO.ext hE4).cell));refine jRE [(true,0),(true,1),(true,2),(true,4),(true,5),(true,6),(false,3),(false,7),(true,8)] Tryz.mixed fun hx=> ?_
    repeat(first
     |refine jLE hx ?_
     |refine jLS ?_
     |(refine yo hx (fun K hK=> ?_);go_simp;go_at_call 48;refine(ji _ g _ _ (hg.ext jX) hlr.out (by assumption)).mono ?_;rintro e w1 ⟨rfl,hE9⟩;refine hK _ _ (hE9) ?_;clear hK hx;intro hx;refine jq ?_)
     |(refine yo hx (fun K hK=> ?_);go_simp;(first|refine hK _ _ jX ?_|refine hK undef _ jX ?_);clear hK hx;intro hx;try refine jq ?_))
    refine zH ?_;have hE7:Ext W w1:=jX;have m4:=(k4.ext hE7).cell;have m5:=(k5.ext hE7).cell;have mO':=(kO.ext hE7).cell;have f4':=(k4.ext hE7).froz;have f5':=(k5.ext hE7).froz;go_wp2;obtain⟨cF4,cF5⟩:=qZ (n:=w.heap.size) (.slice A1 g.ns.length a1) (.slice B1 g.us.length b1) (.slice C1 g.rs.length c1) (.int .i64 0) (.int .u64 (0)) (k4.ext hE7) (k5.ext hE7);exact bodyPost_ret (v:= .tuple #[.agg #[.slice A1 g.ns.length a1,.slice B1 g.us.length b1,.slice C1 g.rs.length c1],.agg #[.int .i64 0,.int .u64 (0)]]) (by simp[results,Tryz.results21,go_sem,cF4,cF5]) rfl ⟨_,rfl,zcc hSb (hG.ext hE7),x9 (hE.trans hE7)⟩
  ·have hb1:(yi g b false==0)=false:=by simpa using hbb
   have hb2:(yi g b false !=0)=true:=by simpa using hbb
   have ht:doT g 6 a b d=(g,yi g b false,0):=by simp[doT,ha,hbb]
   rw[ht];clear ht ha hbb hv;obtain⟨A0,a0,B0,b0,C0,c0,rfl⟩:=hg.sl;go_enter Tryz.func21,Tryz.ntmps21;go_upto_region 2 with(go_at_call 43;refine(ym _ g _ (hg.ext jX) hb).mono ?_;rintro e w1 ⟨vA,vB,vC,qs,rfl,hG,hE1⟩;obtain⟨A1,a1,rfl⟩:=own_slice hG.nodes;obtain⟨B1,b1,rfl⟩:=own_slice hG.used;obtain⟨C1,c1,rfl⟩:=own_slice hG.roots;have kO:Blk (w1.alloc (.cells #[.slice none 0 0,.slice none 0 0,.slice none 0 0] 41)) w1.heap.size 41 #[.slice none 0 0,.slice none 0 0,.slice none 0 0]:=Blk.new rfl;have cO:=kO.cell;have fO:=kO.froz);clear kO cO fO;have hS:=yt hg hE1 hG;clear hE1 hG hg;obtain⟨k2,k3,k4,k5,kO,hG,hg,hE,hlo,hhi⟩:=hS;generalize hW:w1.alloc (.cells #[.slice A1 g.ns.length a1,.slice B1 g.us.length b1,.slice C1 g.rs.length c1] 41)=W at*;clear hW;generalize w1.heap.size=o at*;clear w1;have m2:=k2.cell;have m3:=k3.cell;have mO:=kO.cell;have f4:=k4.froz;have f5:=k5.froz;have n4:w.heap.size+1+1≠o:=by omega
   have n5:w.heap.size+1+1+1≠o:=by omega
   go_wp2_with(first|(go_at_call 44;refine(yW _ g _ _ (hg.ext jX)).mono ?_;rintro e w1 ⟨rfl,hEf⟩;have hE2:Ext W w1:=jX;have m4':=(k4.ext hE2).cell;have m5':=(k5.ext hE2).cell;have f4':=(k4.ext hE2).froz;have f5':=(k5.ext hE2).froz)|(go_at_call 47;refine(ya _ g _ _ _ (hg.ext jX) hlu.out).mono ?_;rintro e w1 ⟨rfl,hE3⟩;have hE4:Ext W w1:=jX;have m2':=(k2.ext hE4).cell;have m3':=(k3.ext hE4).cell;have mO':=(kO.ext hE4).cell));obtain⟨cF4,cF5⟩:=qZ (n:=w.heap.size) (.slice A0 g.ns.length a0) (.slice B0 g.us.length b0) (.slice C0 g.rs.length c0) (.int .i64 (yi g b false)) (.int .u64 0) (k4.ext hE2) (k5.ext hE2);exact bodyPost_ret (v:= .tuple #[.agg #[.slice A0 g.ns.length a0,.slice B0 g.us.length b0,.slice C0 g.rs.length c0],.agg #[.int .i64 (yi g b false),.int .u64 0]]) (by simp[results,Tryz.results21,go_sem,cF4,cF5]) rfl ⟨_,rfl,hg0.ext (x9 (hE.trans hE2)),x9 (hE.trans hE2)⟩
 ·have hb1:(yi g a false==0)=false:=by simpa using ha
  have hb2:(yi g a false !=0)=true:=by simpa using ha
  have ht:doT g 6 a b d=(g,yi g a false,0):=by simp[doT,ha]
  rw[ht];clear ht ha hv;obtain⟨A0,a0,B0,b0,C0,c0,rfl⟩:=hg.sl;go_enter Tryz.func21,Tryz.ntmps21;go_upto_region 2 with(go_at_call 43;refine(ym _ g _ (hg.ext jX) hb).mono ?_;rintro e w1 ⟨vA,vB,vC,qs,rfl,hG,hE1⟩;obtain⟨A1,a1,rfl⟩:=own_slice hG.nodes;obtain⟨B1,b1,rfl⟩:=own_slice hG.used;obtain⟨C1,c1,rfl⟩:=own_slice hG.roots;have kO:Blk (w1.alloc (.cells #[.slice none 0 0,.slice none 0 0,.slice none 0 0] 41)) w1.heap.size 41 #[.slice none 0 0,.slice none 0 0,.slice none 0 0]:=Blk.new rfl;have cO:=kO.cell;have fO:=kO.froz);clear kO cO fO;have hS:=yt hg hE1 hG;clear hE1 hG hg;obtain⟨k2,k3,k4,k5,kO,hG,hg,hE,hlo,hhi⟩:=hS;generalize hW:w1.alloc (.cells #[.slice A1 g.ns.length a1,.slice B1 g.us.length b1,.slice C1 g.rs.length c1] 41)=W at*;clear hW;generalize w1.heap.size=o at*;clear w1;have m2:=k2.cell;have m3:=k3.cell;have mO:=kO.cell;have f4:=k4.froz;have f5:=k5.froz;have n4:w.heap.size+1+1≠o:=by omega
  have n5:w.heap.size+1+1+1≠o:=by omega
  go_wp2_with(first|(go_at_call 44;refine(yW _ g _ _ (hg.ext jX)).mono ?_;rintro e w1 ⟨rfl,hEf⟩;have hE2:Ext W w1:=jX;have m4':=(k4.ext hE2).cell;have m5':=(k5.ext hE2).cell;have f4':=(k4.ext hE2).froz;have f5':=(k5.ext hE2).froz)|(go_at_call 47;refine(ya _ g _ _ _ (hg.ext jX) hlu.out).mono ?_;rintro e w1 ⟨rfl,hE3⟩;have hE4:Ext W w1:=jX;have m2':=(k2.ext hE4).cell;have m3':=(k3.ext hE4).cell;have mO':=(kO.ext hE4).cell));obtain⟨cF4,cF5⟩:=qZ (n:=w.heap.size) (.slice A0 g.ns.length a0) (.slice B0 g.us.length b0) (.slice C0 g.rs.length c0) (.int .i64 (yi g a false)) (.int .u64 0) (k4.ext hE2) (k5.ext hE2);exact bodyPost_ret (v:= .tuple #[.agg #[.slice A0 g.ns.length a0,.slice B0 g.us.length b0,.slice C0 g.rs.length c0],.agg #[.int .i64 (yi g a false),.int .u64 0]]) (by simp[results,Tryz.results21,go_sem,cF4,cF5]) rfl ⟨_,rfl,hg0.ext (x9 (hE.trans hE2)),x9 (hE.trans hE2)⟩
theorem zn1(v:Value)(g:Gr)(c a b d:Int)(w:World){S:List Nat}(hSb: ∀x∈S,x<w.heap.size)(hg0:GRx S w v g)(hv:Vld g)(hb:Bd g)(hc:c=2∨c=3∨c=4∨c=5∨c=7∨c=9)(ha:yi g a true≠0):
 Calls Tryz.prog 21 #[v,.agg #[.int .i64 c,.int .i64 a,.int .i64 b,.int .i64 d]] w (xf S w (g,yi g a true,0)):=by
 have hg:=hg0.rd;have hlu:=Lib.hid hv.lu;have hlr:=Lib.hid hv.lr;have hb1:(yi g a true==0)=false:=by simpa using ha
 have hb2:(yi g a true !=0)=true:=by simpa using ha
 clear ha hv;rcases hc with rfl|rfl|rfl|rfl|rfl|rfl
 all_goals
  obtain⟨A0,a0,B0,b0,C0,c0,rfl⟩:=hg.sl;go_enter Tryz.func21,Tryz.ntmps21;go_upto_region 2 with(go_at_call 43;refine(ym _ g _ (hg.ext jX) hb).mono ?_;rintro e w1 ⟨vA,vB,vC,qs,rfl,hG,hE1⟩;obtain⟨A1,a1,rfl⟩:=own_slice hG.nodes;obtain⟨B1,b1,rfl⟩:=own_slice hG.used;obtain⟨C1,c1,rfl⟩:=own_slice hG.roots;have kO:Blk (w1.alloc (.cells #[.slice none 0 0,.slice none 0 0,.slice none 0 0] 41)) w1.heap.size 41 #[.slice none 0 0,.slice none 0 0,.slice none 0 0]:=Blk.new rfl;have cO:=kO.cell;have fO:=kO.froz);clear kO cO fO;have hS:=yt hg hE1 hG;clear hE1 hG hg;obtain⟨k2,k3,k4,k5,kO,hG,hg,hE,hlo,hhi⟩:=hS;generalize hW:w1.alloc (.cells #[.slice A1 g.ns.length a1,.slice B1 g.us.length b1,.slice C1 g.rs.length c1] 41)=W at*;clear hW;generalize w1.heap.size=o at*;clear w1;have m2:=k2.cell;have m3:=k3.cell;have mO:=kO.cell;have f4:=k4.froz;have f5:=k5.froz;have n4:w.heap.size+1+1≠o:=by omega
  have n5:w.heap.size+1+1+1≠o:=by omega
  go_wp2_with(first|(go_at_call 44;refine(yW _ g _ _ (hg.ext jX)).mono ?_;rintro e w1 ⟨rfl,hEf⟩;have hE2:Ext W w1:=jX;have m4':=(k4.ext hE2).cell;have m5':=(k5.ext hE2).cell;have f4':=(k4.ext hE2).froz;have f5':=(k5.ext hE2).froz)|(go_at_call 47;refine(ya _ g _ _ _ (hg.ext jX) hlu.out).mono ?_;rintro e w1 ⟨rfl,hE3⟩;have hE4:Ext W w1:=jX;have m2':=(k2.ext hE4).cell;have m3':=(k3.ext hE4).cell;have mO':=(kO.ext hE4).cell));obtain⟨cF4,cF5⟩:=qZ (n:=w.heap.size) (.slice A0 g.ns.length a0) (.slice B0 g.us.length b0) (.slice C0 g.rs.length c0) (.int .i64 (yi g a true)) (.int .u64 0) (k4.ext hE2) (k5.ext hE2);exact bodyPost_ret (v:= .tuple #[.agg #[.slice A0 g.ns.length a0,.slice B0 g.us.length b0,.slice C0 g.rs.length c0],.agg #[.int .i64 (yi g a true),.int .u64 0]]) (by simp[results,Tryz.results21,go_sem,cF4,cF5]) rfl ⟨_,rfl,hg0.ext (x9 (hE.trans hE2)),x9 (hE.trans hE2)⟩
theorem zre(v:Value)(g:Gr)(b d:Int)(i m:Nat)(x:List Int×List Int)(w:World){S:List Nat}(hSb: ∀x∈S,x<w.heap.size)(hg0:GRx S w v g)(hv:Vld g)(hb:Bd g)(hi:i<32)(hu:g.us[i]? =some true)(hr:g.rs[i]? =some (m:Int))(hx0:g.ns[m]? =some x):
 Calls Tryz.prog 21 #[v,.agg #[.int .i64 9,.int .i64 ((i:Int)+1),.int .i64 b,.int .i64 d]] w (xf S w (xh g m 9 ((i:Int)+1) b d)):=by
 have ht:xh g m 9 ((i:Int)+1) b d=(g,0,256*(x.1.length:Int)+x.2.length):=by simp[xh,List.getD_eq_getElem?_getD,hx0]
 rw[ht];clear ht;have hg:=hg0.rd;have hlu:=Lib.hid hv.lu;have hlr:=Lib.hid hv.lr;have ha0:=xi g i true true hi hu;have ha1:(yi g ((i:Int)+1) true==0)=true:=by rw[ha0];rfl
 have ha2:(yi g ((i:Int)+1) true !=0)=false:=by rw[ha0];rfl
 have hm:=(List.getElem?_eq_some_iff.1 hx0).1;have hmb:(m:Int)<g.ns.length:=by omega
 have hn:=hv.nd m x hx0;have hn1:=hn.1;have hn2:=hn.2.1;have Hr:=Lib.hid hr;have Hx:=Lib.hid hx0;have Hn:=Lib.hid hn;have Hu:=Lib.hid hu;have b1:(i:Int)+1-1=i:=by omega
 clear ha0 hv hu hr hx0 hn;obtain⟨A0,a0,B0,b0,C0,c0,rfl⟩:=hg.sl;go_enter Tryz.func21,Tryz.ntmps21;go_upto_region 2 with(go_at_call 43;refine(ym _ g _ (hg.ext jX) hb).mono ?_;rintro e w1 ⟨vA,vB,vC,qs,rfl,hG,hE1⟩;obtain⟨A1,a1,rfl⟩:=own_slice hG.nodes;obtain⟨B1,b1,rfl⟩:=own_slice hG.used;obtain⟨C1,c1,rfl⟩:=own_slice hG.roots;have kO:Blk (w1.alloc (.cells #[.slice none 0 0,.slice none 0 0,.slice none 0 0] 41)) w1.heap.size 41 #[.slice none 0 0,.slice none 0 0,.slice none 0 0]:=Blk.new rfl;have cO:=kO.cell;have fO:=kO.froz);clear kO cO fO;have hS:=yt hg hE1 hG;clear hE1 hG hg;obtain⟨k2,k3,k4,k5,kO,hG,hg,hE,hlo,hhi⟩:=hS;generalize hW:w1.alloc (.cells #[.slice A1 g.ns.length a1,.slice B1 g.us.length b1,.slice C1 g.rs.length c1] 41)=W at*;clear hW;generalize w1.heap.size=o at*;clear w1;have m2:=k2.cell;have m3:=k3.cell;have mO:=kO.cell;have f4:=k4.froz;have f5:=k5.froz;have n4:w.heap.size+1+1≠o:=by omega
 have n5:w.heap.size+1+1+1≠o:=by omega
 obtain⟨ba,oa,R,cR,D,cD,rfl,q0,q1,hR,hD,lq⟩:=hg0.rd.node Hx.out;replace q0:=zp hE q0;replace q1:=zp hE q1;go_upto_region 41 with(first|(go_at_call 47;refine(ya _ g _ _ _ (hg.ext jX) hlu.out).mono ?_;rintro e w1 ⟨rfl,hE3⟩;have hE4:Ext W w1:=jX;have m2':=(k2.ext hE4).cell;have m3':=(k3.ext hE4).cell;have mO':=(kO.ext hE4).cell));obtain⟨W5,rfl⟩: ∃W5,W5=w1:=⟨_,rfl⟩;have hE5:Ext W W5:=jX;have q0':=zp hE5 q0;have q1':=zp hE5 q1;have lq':=zh q0';have z5:=hE5.size_le;have l2:=(k2.ext hE5).lt;have l3:=(k3.ext hE5).lt;go_cut [13] (fun t wx=> ∃q,t= .pointer (some ⟨q,0,none⟩)∧Blk wx q 106 #[.slice R x.1.length cR,.slice D x.2.length cD]∧Ext W wx∧W.heap.size<=q)
 case first=>
  refine zn (W5.heap.size) [] (.take 0 (.take 1 (.take 2 (.take 3 (.take 4 (.alt 5 (.take 6 (.take 7 (.alt 8 (.alt 9 .done .none) .none))) (.alt 8 (.alt 5 (.take 6 (.take 7 (.alt 9 .done .none))) .none) .none))))))) Tryz.mixed (by kernel_rfl) ?_;intro hx;iterate 5 (first|refine jTN hx ?_|refine jTS ?_)
  refine jCN hx (fun K hK=> ?_) ?_;go_simp;go_at_call 48;refine(yc _ g i m _ (hg.ext (hE5.trans (zV hx))) hlr.out hi Hr.out).mono ?_;rintro e w1 ⟨rfl,hE1⟩;have hz1:=hE1.size_le;(try simp at hz1);(try(replace hk5:=hk5.ext hE1));refine hK _ _ ((hE1).bel _) ?_;clear hK hx;intro hx;refine jp ?_;iterate 2 (first|refine jTN hx ?_|refine jTS ?_)
  refine jTC (fun K hK=> ?_);go_simp;first|refine hK _ _ jN ?_|refine hK undef _ jN ?_
  clear hK;intro hr;(try have hk5:=zI hr);(try have hk5:=zE hr);replace hx:=hx.trans hr;clear hr;refine jp ?_;refine yl hx (fun K hK=> ?_);try(have hc5:=hk5.cell;have hf5:=hk5.froz)
  go_simp;refine hK _ jN ?_;clear hK hx;intro hx;refine zi ?_;rotate_left;refine jTC (fun K hK=> ?_);go_simp;first|refine hK _ _ jN ?_|refine hK undef _ jN ?_
  clear hK;intro hr;(try have hk5:=zI hr);(try have hk5:=zE hr);replace hx:=hx.trans hr;clear hr;refine jp ?_;refine jCN hx (fun K hK=> ?_);go_simp;go_at_call 48;refine(yc _ g i m _ (hg.ext (hE5.trans (zV hx))) hlr.out hi Hr.out).mono ?_;rintro e w1 ⟨rfl,hE1⟩;have hz1:=hE1.size_le;(try simp at hz1);(try(replace hk5:=hk5.ext hE1));refine hK _ _ ((hE1).bel _) ?_;clear hK hx;intro hx;refine jp ?_;iterate 2 (first|refine jTN hx ?_|refine jTS ?_)
  refine yl hx (fun K hK=> ?_);try(have hc5:=hk5.cell;have hf5:=hk5.froz)
  go_simp;refine hK _ jN ?_;clear hK hx;intro hx;refine zi ?_;rotate_left
  all_goals
   go_wp2;go_meet;refine⟨_,rfl,?_,hE5.trans (zV hx),by(first|omega|(simp;done)|(simp;omega))⟩
   first
    |exact Blk.new rfl
    |exact(hk5.set_ 0 _).set_ 1 _
 case rest=>
  obtain⟨q,rfl,kq,hEq,hq⟩:=hcut;have K2:=k2.ext hEq;have K3:=k3.ext hEq;have K4:=k4.ext hEq;have K5:=k5.ext hEq;have KO:=kO.ext hEq;have HG:=hG.ext hEq;have HE:=hE.trans hEq;have lt5:=k5.lt;have lt2:=K2.lt;have lt3:=K3.lt;have lt4:=K4.lt;have ltO:=KO.lt;have ltq:=kq.lt;have e1:q≠w.heap.size+1+1:=by omega
  have e2:q≠w.heap.size+1+1+1:=by omega
  have e3:q≠o:=by omega
  have e4:o≠w.heap.size+1+1:=by omega
  have e5:o≠w.heap.size+1+1+1:=by omega
  have e6:w.heap.size+1≠o:=by omega
  have e7:w.heap.size≠o:=by omega
  clear q0' q1' lq' z5 l2 l3 hE5;have C2:=K2.cell;have C3:=K3.cell;have C4:=K4.cell;have C5:=K5.cell;have CO:=KO.cell;have Cq:=kq.cell;have F4:=K4.froz;have F5:=K5.froz;go_wp2_with fail;refine zM [w.heap.size+1+1,w.heap.size+1+1+1] (.take 0 (.take 1 (.take 2 (.take 3 (.take 4 (.take 5 (.take 6 (.take 7 (.take 8 (.take 9 (.take 10 (.alt 11 (.alt 12 .done .none) .none)))))))))))) Tryz.mixed (by kernel_rfl) ?_;intro hx hy;iterate 11 (first|refine jTB hx ?_|refine jTS ?_)
  refine kc hx (fun K hK=> ?_);have hcy:=Ext.cell hy;have hfy:=Ext.froz hy;go_simp;refine hK _ jB ?_;clear hK hx;intro hx;refine kc hx (fun K hK=> ?_);have hcy:=Ext.cell hy;have hfy:=Ext.froz hy;go_simp;refine hK _ jB ?_;clear hK hx;intro hx;refine zi ?_;go_wp2;obtain⟨cF4,cF5⟩:=qZ (n:=w.heap.size) (.slice A1 g.ns.length a1) (.slice B1 g.us.length b1) (.slice C1 g.rs.length c1) (.int .i64 0) (.int .u64 (256*(x.1.length:Int)+x.2.length)) (K4) (K5);exact bodyPost_ret (v:= .tuple #[.agg #[.slice A1 g.ns.length a1,.slice B1 g.us.length b1,.slice C1 g.rs.length c1],.agg #[.int .i64 0,.int .u64 (256*(x.1.length:Int)+x.2.length)]]) (by simp[results,Tryz.results21,go_sem,cF4,cF5]) rfl ⟨_,rfl,(zcc hSb (HG)).ext (Ext.drew (Ext.refl _)),Ext.drew (x9 (HE))⟩
theorem zrf(v:Value)(g:Gr)(b d:Int)(i m:Nat)(x:List Int×List Int)(w:World){S:List Nat}(hSb: ∀x∈S,x<w.heap.size)(hg0:GRx S w v g)(hv:Vld g)(hb:Bd g)(hi:i<32)(hu:g.us[i]? =some true)(hr:g.rs[i]? =some (m:Int))(hx0:g.ns[m]? =some x):
 Calls Tryz.prog 21 #[v,.agg #[.int .i64 7,.int .i64 ((i:Int)+1),.int .i64 b,.int .i64 d]] w (xf S w (xh g m 7 ((i:Int)+1) b d)):=by
 have ht:xh g m 7 ((i:Int)+1) b d=(⟨g.ns,g.us.set i false,g.rs.set i (-1)⟩,0,0):=by simp[xh]
 rw[ht];clear ht;have hg:=hg0.rd;have hlu:=Lib.hid hv.lu;have hlr:=Lib.hid hv.lr;have ha0:=xi g i true true hi hu;have ha1:(yi g ((i:Int)+1) true==0)=true:=by rw[ha0];rfl
 have ha2:(yi g ((i:Int)+1) true !=0)=false:=by rw[ha0];rfl
 have hm:=(List.getElem?_eq_some_iff.1 hx0).1;have hmb:(m:Int)<g.ns.length:=by omega
 have hn:=hv.nd m x hx0;have hn1:=hn.1;have hn2:=hn.2.1;have Hr:=Lib.hid hr;have Hx:=Lib.hid hx0;have Hn:=Lib.hid hn;have Hu:=Lib.hid hu;have b1:(i:Int)+1-1=i:=by omega
 clear ha0 hv hu hr hx0 hn;obtain⟨A0,a0,B0,b0,C0,c0,rfl⟩:=hg.sl;go_enter Tryz.func21,Tryz.ntmps21;go_upto_region 2 with(go_at_call 43;refine(ym _ g _ (hg.ext jX) hb).mono ?_;rintro e w1 ⟨vA,vB,vC,qs,rfl,hG,hE1⟩;obtain⟨A1,a1,rfl⟩:=own_slice hG.nodes;obtain⟨B1,b1,rfl⟩:=own_slice hG.used;obtain⟨C1,c1,rfl⟩:=own_slice hG.roots;have kO:Blk (w1.alloc (.cells #[.slice none 0 0,.slice none 0 0,.slice none 0 0] 41)) w1.heap.size 41 #[.slice none 0 0,.slice none 0 0,.slice none 0 0]:=Blk.new rfl;have cO:=kO.cell;have fO:=kO.froz);clear kO cO fO;have hS:=yt hg hE1 hG;clear hE1 hG hg;obtain⟨k2,k3,k4,k5,kO,hG,hg,hE,hlo,hhi⟩:=hS;generalize hW:w1.alloc (.cells #[.slice A1 g.ns.length a1,.slice B1 g.us.length b1,.slice C1 g.rs.length c1] 41)=W at*;clear hW;generalize w1.heap.size=o at*;clear w1;have m2:=k2.cell;have m3:=k3.cell;have mO:=kO.cell;have f4:=k4.froz;have f5:=k5.froz;have n4:w.heap.size+1+1≠o:=by omega
 have n5:w.heap.size+1+1+1≠o:=by omega
 obtain⟨ba,oa,R,cR,D,cD,rfl,q0,q1,hR,hD,lq⟩:=hg0.rd.node Hx.out;replace q0:=zp hE q0;replace q1:=zp hE q1;go_upto_region 41 with(first|(go_at_call 47;refine(ya _ g _ _ _ (hg.ext jX) hlu.out).mono ?_;rintro e w1 ⟨rfl,hE3⟩;have hE4:Ext W w1:=jX;have m2':=(k2.ext hE4).cell;have m3':=(k3.ext hE4).cell;have mO':=(kO.ext hE4).cell));obtain⟨W5,rfl⟩: ∃W5,W5=w1:=⟨_,rfl⟩;have hE5:Ext W W5:=jX;have q0':=zp hE5 q0;have q1':=zp hE5 q1;have lq':=zh q0';have z5:=hE5.size_le;have l2:=(k2.ext hE5).lt;have l3:=(k3.ext hE5).lt;go_cut [13] (fun t wx=> ∃q,t= .pointer (some ⟨q,0,none⟩)∧Blk wx q 106 #[.slice R x.1.length cR,.slice D x.2.length cD]∧Ext W wx∧W.heap.size<=q)
 case first=>
  refine zn (W5.heap.size) [] (.take 0 (.take 1 (.take 2 (.take 3 (.take 4 (.alt 5 (.take 6 (.take 7 (.alt 8 (.alt 9 .done .none) .none))) (.alt 8 (.alt 5 (.take 6 (.take 7 (.alt 9 .done .none))) .none) .none))))))) Tryz.mixed (by kernel_rfl) ?_;intro hx;iterate 5 (first|refine jTN hx ?_|refine jTS ?_)
  refine jCN hx (fun K hK=> ?_) ?_;go_simp;go_at_call 48;refine(yc _ g i m _ (hg.ext (hE5.trans (zV hx))) hlr.out hi Hr.out).mono ?_;rintro e w1 ⟨rfl,hE1⟩;have hz1:=hE1.size_le;(try simp at hz1);(try(replace hk5:=hk5.ext hE1));refine hK _ _ ((hE1).bel _) ?_;clear hK hx;intro hx;refine jp ?_;iterate 2 (first|refine jTN hx ?_|refine jTS ?_)
  refine jTC (fun K hK=> ?_);go_simp;first|refine hK _ _ jN ?_|refine hK undef _ jN ?_
  clear hK;intro hr;(try have hk5:=zI hr);(try have hk5:=zE hr);replace hx:=hx.trans hr;clear hr;refine jp ?_;refine yl hx (fun K hK=> ?_);try(have hc5:=hk5.cell;have hf5:=hk5.froz)
  go_simp;refine hK _ jN ?_;clear hK hx;intro hx;refine zi ?_;rotate_left;refine jTC (fun K hK=> ?_);go_simp;first|refine hK _ _ jN ?_|refine hK undef _ jN ?_
  clear hK;intro hr;(try have hk5:=zI hr);(try have hk5:=zE hr);replace hx:=hx.trans hr;clear hr;refine jp ?_;refine jCN hx (fun K hK=> ?_);go_simp;go_at_call 48;refine(yc _ g i m _ (hg.ext (hE5.trans (zV hx))) hlr.out hi Hr.out).mono ?_;rintro e w1 ⟨rfl,hE1⟩;have hz1:=hE1.size_le;(try simp at hz1);(try(replace hk5:=hk5.ext hE1));refine hK _ _ ((hE1).bel _) ?_;clear hK hx;intro hx;refine jp ?_;iterate 2 (first|refine jTN hx ?_|refine jTS ?_)
  refine yl hx (fun K hK=> ?_);try(have hc5:=hk5.cell;have hf5:=hk5.froz)
  go_simp;refine hK _ jN ?_;clear hK hx;intro hx;refine zi ?_;rotate_left
  all_goals
   go_wp2;go_meet;refine⟨_,rfl,?_,hE5.trans (zV hx),by(first|omega|(simp;done)|(simp;omega))⟩
   first
    |exact Blk.new rfl
    |exact(hk5.set_ 0 _).set_ 1 _
 case rest=>
  obtain⟨q,rfl,kq,hEq,hq⟩:=hcut;have K2:=k2.ext hEq;have K3:=k3.ext hEq;have K4:=k4.ext hEq;have K5:=k5.ext hEq;have KO:=kO.ext hEq;have HG:=hG.ext hEq;have HE:=hE.trans hEq;have lt5:=k5.lt;have lt2:=K2.lt;have lt3:=K3.lt;have lt4:=K4.lt;have ltO:=KO.lt;have ltq:=kq.lt;have e1:q≠w.heap.size+1+1:=by omega
  have e2:q≠w.heap.size+1+1+1:=by omega
  have e3:q≠o:=by omega
  have e4:o≠w.heap.size+1+1:=by omega
  have e5:o≠w.heap.size+1+1+1:=by omega
  have e6:w.heap.size+1≠o:=by omega
  have e7:w.heap.size≠o:=by omega
  clear q0' q1' lq' z5 l2 l3 hE5;have C2:=K2.cell;have C3:=K3.cell;have C4:=K4.cell;have C5:=K5.cell;have CO:=KO.cell;have Cq:=kq.cell;have F4:=K4.froz;have F5:=K5.froz;obtain⟨bB,bC,rfl,rfl,t1,t2,t3,t4,t5⟩:=HG.tabs (by have:=hlu.out;omega) (by have:=hlr.out;omega);obtain⟨cB,fB⟩:=zz HG.used;obtain⟨cC,fC⟩:=zz HG.roots;have cBi:=cB i _ (zay Hu.out);have cCi:=cC i _ (xq Hr.out);have i1:i<g.us.length:=by have:=hlu.out;omega
  have i2:(i:Int)<g.us.length:=by omega
  have i3:i<g.rs.length:=by have:=hlr.out;omega
  have i4:(i:Int)<g.rs.length:=by omega
  have t6:bC≠bB:=fun e=>t1 e.symm
  have d1:o≠bB:=fun e=>t2 e.symm
  have d2:o≠bC:=fun e=>t3 e.symm
  have d3:w.heap.size+1≠bB:=by omega
  have d4:w.heap.size+1≠bC:=by omega
  have d5:w.heap.size+1+1≠bB:=by omega
  have d6:w.heap.size+1+1≠bC:=by omega
  have d7:w.heap.size+1+1+1≠bB:=by omega
  have d8:w.heap.size+1+1+1≠bC:=by omega
  clear cB cC;go_wp2_with fail;refine zM [bB,bC] (.take 0 (.take 1 (.take 2 (.take 3 (.take 4 (.take 5 (.take 6 (.take 7 (.take 8 (.take 9 (.take 10 (.alt 11 (.take 12 (.alt 13 .done .none)) .none)))))))))))) Tryz.mixed (by kernel_rfl) ?_;intro hx hy;iterate 11 (first|refine jTB hx ?_|refine jTS ?_)
  refine kc hx (fun K hK=> ?_);have hcy:=Ext.cell hy;have hfy:=Ext.froz hy;go_simp;refine hK _ jB ?_;clear hK hx;intro hx;first|refine jTB hx ?_|refine jTS ?_
  refine kc hx (fun K hK=> ?_);have hcy:=Ext.cell hy;have hfy:=Ext.froz hy;go_simp;refine hK _ jB ?_;clear hK hx;intro hx;refine zi ?_;go_wp2;have K4':=(K4.far (p:=⟨bB,i,none⟩) d5 (.bool false)).far (p:=⟨bC,i,none⟩) d6 (.int .i64 (-1));have K5':=(K5.far (p:=⟨bB,i,none⟩) d7 (.bool false)).far (p:=⟨bC,i,none⟩) d8 (.int .i64 (-1));have HG':=(HG.setU rfl i false).setC rfl i (-1);have HE':=Ext.setCell (Ext.setCell HE (p:=⟨bB,i,none⟩) (by show w.heap.size<=bB;omega) (.bool false)) (p:=⟨bC,i,none⟩) (by show w.heap.size<=bC;omega) (.int .i64 (-1));obtain⟨cF4,cF5⟩:=qZ (n:=w.heap.size) (.slice A1 g.ns.length a1) (.slice (some ⟨bB,0,none⟩) g.us.length b1) (.slice (some ⟨bC,0,none⟩) g.rs.length c1) (.int .i64 0) (.int .u64 (0)) (K4') (K5');exact bodyPost_ret (v:= .tuple #[.agg #[.slice A1 g.ns.length a1,.slice (some ⟨bB,0,none⟩) g.us.length b1,.slice (some ⟨bC,0,none⟩) g.rs.length c1],.agg #[.int .i64 0,.int .u64 (0)]]) (by simp[results,Tryz.results21,go_sem,cF4,cF5]) rfl ⟨_,rfl,(zcc hSb (HG')).ext (Ext.drew (Ext.refl _)),Ext.drew (x9 (HE'))⟩
theorem zrg(v:Value)(g:Gr)(d:Int)(i m k:Nat)(x:List Int×List Int)(w:World){S:List Nat}(hSb: ∀x∈S,x<w.heap.size)(hg0:GRx S w v g)(hv:Vld g)(hb:Bd g)(hi:i<32)(hu:g.us[i]? =some true)(hr:g.rs[i]? =some (m:Int))(hx0:g.ns[m]? =some x)(hk:k<x.2.length):
 Calls Tryz.prog 21 #[v,.agg #[.int .i64 4,.int .i64 ((i:Int)+1),.int .i64 k,.int .i64 d]] w (xf S w (xh g m 4 ((i:Int)+1) k d)):=by
 obtain⟨z,hz⟩: ∃z,x.2[k]? =some z:=⟨_,List.getElem?_eq_getElem hk⟩
 have ht:xh g m 4 ((i:Int)+1) k d=(g,0,z):=by
  have hz':=(List.getElem?_eq_some_iff.1 hz).2;simp[xh,List.getD_eq_getElem?_getD,hx0,hz,Nat.not_le.2 hk,show¬((k:Int)<0) by omega,hz']
 rw[ht];clear ht;have Hz:=Lib.hid hz;have kd1:decide ((k:Int)<0)=false:=by simp
 have kd2:decide ((x.2.length:Int)<=k)=false:=by simp;omega
 have kd3:decide (x.2.length<=k)=false:=by simp;omega
 have kb1:(k:Int)<x.2.length:=by omega
 clear hz;have hg:=hg0.rd;have hlu:=Lib.hid hv.lu;have hlr:=Lib.hid hv.lr;have ha0:=xi g i true true hi hu;have ha1:(yi g ((i:Int)+1) true==0)=true:=by rw[ha0];rfl
 have ha2:(yi g ((i:Int)+1) true !=0)=false:=by rw[ha0];rfl
 have hm:=(List.getElem?_eq_some_iff.1 hx0).1;have hmb:(m:Int)<g.ns.length:=by omega
 have hn:=hv.nd m x hx0;have hn1:=hn.1;have hn2:=hn.2.1;have Hr:=Lib.hid hr;have Hx:=Lib.hid hx0;have Hn:=Lib.hid hn;have Hu:=Lib.hid hu;have b1:(i:Int)+1-1=i:=by omega
 clear ha0 hv hu hr hx0 hn;obtain⟨A0,a0,B0,b0,C0,c0,rfl⟩:=hg.sl;go_enter Tryz.func21,Tryz.ntmps21;go_upto_region 2 with(go_at_call 43;refine(ym _ g _ (hg.ext jX) hb).mono ?_;rintro e w1 ⟨vA,vB,vC,qs,rfl,hG,hE1⟩;obtain⟨A1,a1,rfl⟩:=own_slice hG.nodes;obtain⟨B1,b1,rfl⟩:=own_slice hG.used;obtain⟨C1,c1,rfl⟩:=own_slice hG.roots;have kO:Blk (w1.alloc (.cells #[.slice none 0 0,.slice none 0 0,.slice none 0 0] 41)) w1.heap.size 41 #[.slice none 0 0,.slice none 0 0,.slice none 0 0]:=Blk.new rfl;have cO:=kO.cell;have fO:=kO.froz);clear kO cO fO;have hS:=yt hg hE1 hG;clear hE1 hG hg;obtain⟨k2,k3,k4,k5,kO,hG,hg,hE,hlo,hhi⟩:=hS;generalize hW:w1.alloc (.cells #[.slice A1 g.ns.length a1,.slice B1 g.us.length b1,.slice C1 g.rs.length c1] 41)=W at*;clear hW;generalize w1.heap.size=o at*;clear w1;have m2:=k2.cell;have m3:=k3.cell;have mO:=kO.cell;have f4:=k4.froz;have f5:=k5.froz;have n4:w.heap.size+1+1≠o:=by omega
 have n5:w.heap.size+1+1+1≠o:=by omega
 obtain⟨ba,oa,R,cR,D,cD,rfl,q0,q1,hR,hD,lq⟩:=hg0.rd.node Hx.out;replace q0:=zp hE q0;replace q1:=zp hE q1;go_upto_region 41 with(first|(go_at_call 47;refine(ya _ g _ _ _ (hg.ext jX) hlu.out).mono ?_;rintro e w1 ⟨rfl,hE3⟩;have hE4:Ext W w1:=jX;have m2':=(k2.ext hE4).cell;have m3':=(k3.ext hE4).cell;have mO':=(kO.ext hE4).cell));obtain⟨W5,rfl⟩: ∃W5,W5=w1:=⟨_,rfl⟩;have hE5:Ext W W5:=jX;have q0':=zp hE5 q0;have q1':=zp hE5 q1;have lq':=zh q0';have z5:=hE5.size_le;have l2:=(k2.ext hE5).lt;have l3:=(k3.ext hE5).lt;go_cut [13] (fun t wx=> ∃q,t= .pointer (some ⟨q,0,none⟩)∧Blk wx q 106 #[.slice R x.1.length cR,.slice D x.2.length cD]∧Ext W wx∧W.heap.size<=q)
 case first=>
  refine zn (W5.heap.size) [] (.take 0 (.take 1 (.take 2 (.take 3 (.take 4 (.alt 5 (.take 6 (.take 7 (.alt 8 (.alt 9 .done .none) .none))) (.alt 8 (.alt 5 (.take 6 (.take 7 (.alt 9 .done .none))) .none) .none))))))) Tryz.mixed (by kernel_rfl) ?_;intro hx;iterate 5 (first|refine jTN hx ?_|refine jTS ?_)
  refine jCN hx (fun K hK=> ?_) ?_;go_simp;go_at_call 48;refine(yc _ g i m _ (hg.ext (hE5.trans (zV hx))) hlr.out hi Hr.out).mono ?_;rintro e w1 ⟨rfl,hE1⟩;have hz1:=hE1.size_le;(try simp at hz1);(try(replace hk5:=hk5.ext hE1));refine hK _ _ ((hE1).bel _) ?_;clear hK hx;intro hx;refine jp ?_;iterate 2 (first|refine jTN hx ?_|refine jTS ?_)
  refine jTC (fun K hK=> ?_);go_simp;first|refine hK _ _ jN ?_|refine hK undef _ jN ?_
  clear hK;intro hr;(try have hk5:=zI hr);(try have hk5:=zE hr);replace hx:=hx.trans hr;clear hr;refine jp ?_;refine yl hx (fun K hK=> ?_);try(have hc5:=hk5.cell;have hf5:=hk5.froz)
  go_simp;refine hK _ jN ?_;clear hK hx;intro hx;refine zi ?_;rotate_left;refine jTC (fun K hK=> ?_);go_simp;first|refine hK _ _ jN ?_|refine hK undef _ jN ?_
  clear hK;intro hr;(try have hk5:=zI hr);(try have hk5:=zE hr);replace hx:=hx.trans hr;clear hr;refine jp ?_;refine jCN hx (fun K hK=> ?_);go_simp;go_at_call 48;refine(yc _ g i m _ (hg.ext (hE5.trans (zV hx))) hlr.out hi Hr.out).mono ?_;rintro e w1 ⟨rfl,hE1⟩;have hz1:=hE1.size_le;(try simp at hz1);(try(replace hk5:=hk5.ext hE1));refine hK _ _ ((hE1).bel _) ?_;clear hK hx;intro hx;refine jp ?_;iterate 2 (first|refine jTN hx ?_|refine jTS ?_)
  refine yl hx (fun K hK=> ?_);try(have hc5:=hk5.cell;have hf5:=hk5.froz)
  go_simp;refine hK _ jN ?_;clear hK hx;intro hx;refine zi ?_;rotate_left
  all_goals
   go_wp2;go_meet;refine⟨_,rfl,?_,hE5.trans (zV hx),by(first|omega|(simp;done)|(simp;omega))⟩
   first
    |exact Blk.new rfl
    |exact(hk5.set_ 0 _).set_ 1 _
 case rest=>
  obtain⟨q,rfl,kq,hEq,hq⟩:=hcut;have K2:=k2.ext hEq;have K3:=k3.ext hEq;have K4:=k4.ext hEq;have K5:=k5.ext hEq;have KO:=kO.ext hEq;have HG:=hG.ext hEq;have HE:=hE.trans hEq;have lt5:=k5.lt;have lt2:=K2.lt;have lt3:=K3.lt;have lt4:=K4.lt;have ltO:=KO.lt;have ltq:=kq.lt;have e1:q≠w.heap.size+1+1:=by omega
  have e2:q≠w.heap.size+1+1+1:=by omega
  have e3:q≠o:=by omega
  have e4:o≠w.heap.size+1+1:=by omega
  have e5:o≠w.heap.size+1+1+1:=by omega
  have e6:w.heap.size+1≠o:=by omega
  have e7:w.heap.size≠o:=by omega
  clear q0' q1' lq' z5 l2 l3 hE5;have C2:=K2.cell;have C3:=K3.cell;have C4:=K4.cell;have C5:=K5.cell;have CO:=KO.cell;have Cq:=kq.cell;have F4:=K4.froz;have F5:=K5.froz;obtain⟨bD,oD,u,rfl,hu,hcell⟩:=hD.at_ hk;rw[xV Hz.out]at hu;injection hu with hu;subst hu;have lD:=zh hcell;replace hcell:=zp HE hcell;have d1:bD≠w.heap.size+1+1:=by omega
  have d2:bD≠w.heap.size+1+1+1:=by omega
  have lD':=zh hcell;go_wp2_with fail;refine zM [w.heap.size+1+1,w.heap.size+1+1+1] (.take 0 (.take 1 (.take 2 (.take 3 (.take 4 (.take 5 (.take 6 (.take 7 (.alt 8 (.alt 9 .done .none) .none))))))))) Tryz.mixed (by kernel_rfl) ?_;intro hx hy;iterate 8 (first|refine jTB hx ?_|refine jTS ?_)
  refine kc hx (fun K hK=> ?_);have hcy:=Ext.cell hy;have hfy:=Ext.froz hy;go_simp;refine hK _ jB ?_;clear hK hx;intro hx;refine kc hx (fun K hK=> ?_);have hcy:=Ext.cell hy;have hfy:=Ext.froz hy;go_simp;refine hK _ jB ?_;clear hK hx;intro hx;refine zi ?_;go_wp2;obtain⟨cF4,cF5⟩:=qZ (n:=w.heap.size) (.slice A1 g.ns.length a1) (.slice B1 g.us.length b1) (.slice C1 g.rs.length c1) (.int .i64 0) (.int .u64 (z)) (K4) (K5);exact bodyPost_ret (v:= .tuple #[.agg #[.slice A1 g.ns.length a1,.slice B1 g.us.length b1,.slice C1 g.rs.length c1],.agg #[.int .i64 0,.int .u64 (z)]]) (by simp[results,Tryz.results21,go_sem,cF4,cF5]) rfl ⟨_,rfl,(zcc hSb (HG)).ext (Ext.drew (Ext.refl _)),Ext.drew (x9 (HE))⟩
theorem zk2(v:Value)(g:Gr)(b d:Int)(i m:Nat)(x:List Int×List Int)(w:World){S:List Nat}(hSb: ∀x∈S,x<w.heap.size)(hg0:GRx S w v g)(hv:Vld g)(hb:Bd g)(hi:i<32)(hu:g.us[i]? =some true)(hr:g.rs[i]? =some (m:Int))(hx0:g.ns[m]? =some x)(hk:b<0∨(x.1.length:Int)<=b):
 Calls Tryz.prog 21 #[v,.agg #[.int .i64 2,.int .i64 ((i:Int)+1),.int .i64 b,.int .i64 d]] w (xf S w (g,17,0)):=by
 have hH: ∃x1 x2:Bool,decide (b<0)=x1∧decide ((x.1.length:Int)<=b)=x2∧(x1||x2)=true:=⟨_,_,rfl,rfl,by simpa using hk⟩;clear hk;obtain⟨x1,x2,t1,t2,t3⟩:=hH;have hg:=hg0.rd;have hlu:=Lib.hid hv.lu;have hlr:=Lib.hid hv.lr;have ha0:=xi g i true true hi hu;have ha1:(yi g ((i:Int)+1) true==0)=true:=by rw[ha0];rfl
 have ha2:(yi g ((i:Int)+1) true !=0)=false:=by rw[ha0];rfl
 have hm:=(List.getElem?_eq_some_iff.1 hx0).1;have hmb:(m:Int)<g.ns.length:=by omega
 have hn:=hv.nd m x hx0;have hn1:=hn.1;have hn2:=hn.2.1;have Hr:=Lib.hid hr;have Hx:=Lib.hid hx0;have Hn:=Lib.hid hn;have Hu:=Lib.hid hu;have b1:(i:Int)+1-1=i:=by omega
 clear ha0 hv hu hr hx0 hn;obtain⟨A0,a0,B0,b0,C0,c0,rfl⟩:=hg.sl;go_enter Tryz.func21,Tryz.ntmps21;go_upto_region 2 with(go_at_call 43;refine(ym _ g _ (hg.ext jX) hb).mono ?_;rintro e w1 ⟨vA,vB,vC,qs,rfl,hG,hE1⟩;obtain⟨A1,a1,rfl⟩:=own_slice hG.nodes;obtain⟨B1,b1,rfl⟩:=own_slice hG.used;obtain⟨C1,c1,rfl⟩:=own_slice hG.roots;have kO:Blk (w1.alloc (.cells #[.slice none 0 0,.slice none 0 0,.slice none 0 0] 41)) w1.heap.size 41 #[.slice none 0 0,.slice none 0 0,.slice none 0 0]:=Blk.new rfl;have cO:=kO.cell;have fO:=kO.froz);clear kO cO fO;have hS:=yt hg hE1 hG;clear hE1 hG hg;obtain⟨k2,k3,k4,k5,kO,hG,hg,hE,hlo,hhi⟩:=hS;generalize hW:w1.alloc (.cells #[.slice A1 g.ns.length a1,.slice B1 g.us.length b1,.slice C1 g.rs.length c1] 41)=W at*;clear hW;generalize w1.heap.size=o at*;clear w1;have m2:=k2.cell;have m3:=k3.cell;have mO:=kO.cell;have f4:=k4.froz;have f5:=k5.froz;have n4:w.heap.size+1+1≠o:=by omega
 have n5:w.heap.size+1+1+1≠o:=by omega
 obtain⟨ba,oa,R,cR,D,cD,rfl,q0,q1,hR,hD,lq⟩:=hg0.rd.node Hx.out;replace q0:=zp hE q0;replace q1:=zp hE q1;go_upto_region 41 with(first|(go_at_call 47;refine(ya _ g _ _ _ (hg.ext jX) hlu.out).mono ?_;rintro e w1 ⟨rfl,hE3⟩;have hE4:Ext W w1:=jX;have m2':=(k2.ext hE4).cell;have m3':=(k3.ext hE4).cell;have mO':=(kO.ext hE4).cell));obtain⟨W5,rfl⟩: ∃W5,W5=w1:=⟨_,rfl⟩;have hE5:Ext W W5:=jX;have q0':=zp hE5 q0;have q1':=zp hE5 q1;have lq':=zh q0';have z5:=hE5.size_le;have l2:=(k2.ext hE5).lt;have l3:=(k3.ext hE5).lt;go_cut [13] (fun t wx=> ∃q,t= .pointer (some ⟨q,0,none⟩)∧Blk wx q 106 #[.slice R x.1.length cR,.slice D x.2.length cD]∧Ext W wx∧W.heap.size<=q)
 case first=>
  refine zn (W5.heap.size) [] (.take 0 (.take 1 (.take 2 (.take 3 (.take 4 (.alt 5 (.take 6 (.take 7 (.alt 8 (.alt 9 .done .none) .none))) (.alt 8 (.alt 5 (.take 6 (.take 7 (.alt 9 .done .none))) .none) .none))))))) Tryz.mixed (by kernel_rfl) ?_;intro hx;iterate 5 (first|refine jTN hx ?_|refine jTS ?_)
  refine jCN hx (fun K hK=> ?_) ?_;go_simp;go_at_call 48;refine(yc _ g i m _ (hg.ext (hE5.trans (zV hx))) hlr.out hi Hr.out).mono ?_;rintro e w1 ⟨rfl,hE1⟩;have hz1:=hE1.size_le;(try simp at hz1);(try(replace hk5:=hk5.ext hE1));refine hK _ _ ((hE1).bel _) ?_;clear hK hx;intro hx;refine jp ?_;iterate 2 (first|refine jTN hx ?_|refine jTS ?_)
  refine jTC (fun K hK=> ?_);go_simp;first|refine hK _ _ jN ?_|refine hK undef _ jN ?_
  clear hK;intro hr;(try have hk5:=zI hr);(try have hk5:=zE hr);replace hx:=hx.trans hr;clear hr;refine jp ?_;refine yl hx (fun K hK=> ?_);try(have hc5:=hk5.cell;have hf5:=hk5.froz)
  go_simp;refine hK _ jN ?_;clear hK hx;intro hx;refine zi ?_;rotate_left;refine jTC (fun K hK=> ?_);go_simp;first|refine hK _ _ jN ?_|refine hK undef _ jN ?_
  clear hK;intro hr;(try have hk5:=zI hr);(try have hk5:=zE hr);replace hx:=hx.trans hr;clear hr;refine jp ?_;refine jCN hx (fun K hK=> ?_);go_simp;go_at_call 48;refine(yc _ g i m _ (hg.ext (hE5.trans (zV hx))) hlr.out hi Hr.out).mono ?_;rintro e w1 ⟨rfl,hE1⟩;have hz1:=hE1.size_le;(try simp at hz1);(try(replace hk5:=hk5.ext hE1));refine hK _ _ ((hE1).bel _) ?_;clear hK hx;intro hx;refine jp ?_;iterate 2 (first|refine jTN hx ?_|refine jTS ?_)
  refine yl hx (fun K hK=> ?_);try(have hc5:=hk5.cell;have hf5:=hk5.froz)
  go_simp;refine hK _ jN ?_;clear hK hx;intro hx;refine zi ?_;rotate_left
  all_goals
   go_wp2;go_meet;refine⟨_,rfl,?_,hE5.trans (zV hx),by(first|omega|(simp;done)|(simp;omega))⟩
   first
    |exact Blk.new rfl
    |exact(hk5.set_ 0 _).set_ 1 _
 case rest=>
  obtain⟨q,rfl,kq,hEq,hq⟩:=hcut;have K2:=k2.ext hEq;have K3:=k3.ext hEq;have K4:=k4.ext hEq;have K5:=k5.ext hEq;have KO:=kO.ext hEq;have HG:=hG.ext hEq;have HE:=hE.trans hEq;have lt5:=k5.lt;have lt2:=K2.lt;have lt3:=K3.lt;have lt4:=K4.lt;have ltO:=KO.lt;have ltq:=kq.lt;have e1:q≠w.heap.size+1+1:=by omega
  have e2:q≠w.heap.size+1+1+1:=by omega
  have e3:q≠o:=by omega
  have e4:o≠w.heap.size+1+1:=by omega
  have e5:o≠w.heap.size+1+1+1:=by omega
  have e6:w.heap.size+1≠o:=by omega
  have e7:w.heap.size≠o:=by omega
  clear q0' q1' lq' z5 l2 l3 hE5;have C2:=K2.cell;have C3:=K3.cell;have C4:=K4.cell;have C5:=K5.cell;have CO:=KO.cell;have Cq:=kq.cell;have F4:=K4.froz;have F5:=K5.froz;have hg2:=hg.ext hEq;clear C2 C3 C4 C5 CO F4 F5;have C2:=K2.cell;have C3:=K3.cell;go_upto_region 51 with fail;cases x1<;>cases x2<;>simp only[Bool.or_true,Bool.or_false,Bool.true_or,Bool.false_or,Bool.false_eq_true]at t3
  all_goals
   go_wp2_with(first|(go_at_call 44;refine(yW _ g _ _ (hg.ext jX)).mono ?_;rintro e w1 ⟨rfl,hEf⟩;have hE2:Ext W w1:=jX;have m4':=(k4.ext hE2).cell;have m5':=(k5.ext hE2).cell;have f4':=(k4.ext hE2).froz;have f5':=(k5.ext hE2).froz));obtain⟨cF4,cF5⟩:=qZ (n:=w.heap.size) (.slice (some ⟨ba,oa,none⟩) g.ns.length a0) (.slice B0 g.us.length b0) (.slice C0 g.rs.length c0) (.int .i64 (17)) (.int .u64 0) (k4.ext hE2) (k5.ext hE2);exact bodyPost_ret (v:= .tuple #[.agg #[.slice (some ⟨ba,oa,none⟩) g.ns.length a0,.slice B0 g.us.length b0,.slice C0 g.rs.length c0],.agg #[.int .i64 (17),.int .u64 0]]) (by simp[results,Tryz.results21,go_sem,cF4,cF5]) rfl ⟨_,rfl,hg0.ext (x9 (hE.trans hE2)),x9 (hE.trans hE2)⟩
theorem zk3(v:Value)(g:Gr)(b d:Int)(i m:Nat)(x:List Int×List Int)(w:World){S:List Nat}(hSb: ∀x∈S,x<w.heap.size)(hg0:GRx S w v g)(hv:Vld g)(hb:Bd g)(hi:i<32)(hu:g.us[i]? =some true)(hr:g.rs[i]? =some (m:Int))(hx0:g.ns[m]? =some x)(hk:b<0∨(x.1.length:Int)<=b):
 Calls Tryz.prog 21 #[v,.agg #[.int .i64 3,.int .i64 ((i:Int)+1),.int .i64 b,.int .i64 d]] w (xf S w (g,17,0)):=by
 have hH: ∃x1 x2:Bool,decide (b<0)=x1∧decide ((x.1.length:Int)<=b)=x2∧(x1||x2)=true:=⟨_,_,rfl,rfl,by simpa using hk⟩;clear hk;obtain⟨x1,x2,t1,t2,t3⟩:=hH;have hg:=hg0.rd;have hlu:=Lib.hid hv.lu;have hlr:=Lib.hid hv.lr;have ha0:=xi g i true true hi hu;have ha1:(yi g ((i:Int)+1) true==0)=true:=by rw[ha0];rfl
 have ha2:(yi g ((i:Int)+1) true !=0)=false:=by rw[ha0];rfl
 have hm:=(List.getElem?_eq_some_iff.1 hx0).1;have hmb:(m:Int)<g.ns.length:=by omega
 have hn:=hv.nd m x hx0;have hn1:=hn.1;have hn2:=hn.2.1;have Hr:=Lib.hid hr;have Hx:=Lib.hid hx0;have Hn:=Lib.hid hn;have Hu:=Lib.hid hu;have b1:(i:Int)+1-1=i:=by omega
 clear ha0 hv hu hr hx0 hn;obtain⟨A0,a0,B0,b0,C0,c0,rfl⟩:=hg.sl;go_enter Tryz.func21,Tryz.ntmps21;go_upto_region 2 with(go_at_call 43;refine(ym _ g _ (hg.ext jX) hb).mono ?_;rintro e w1 ⟨vA,vB,vC,qs,rfl,hG,hE1⟩;obtain⟨A1,a1,rfl⟩:=own_slice hG.nodes;obtain⟨B1,b1,rfl⟩:=own_slice hG.used;obtain⟨C1,c1,rfl⟩:=own_slice hG.roots;have kO:Blk (w1.alloc (.cells #[.slice none 0 0,.slice none 0 0,.slice none 0 0] 41)) w1.heap.size 41 #[.slice none 0 0,.slice none 0 0,.slice none 0 0]:=Blk.new rfl;have cO:=kO.cell;have fO:=kO.froz);clear kO cO fO;have hS:=yt hg hE1 hG;clear hE1 hG hg;obtain⟨k2,k3,k4,k5,kO,hG,hg,hE,hlo,hhi⟩:=hS;generalize hW:w1.alloc (.cells #[.slice A1 g.ns.length a1,.slice B1 g.us.length b1,.slice C1 g.rs.length c1] 41)=W at*;clear hW;generalize w1.heap.size=o at*;clear w1;have m2:=k2.cell;have m3:=k3.cell;have mO:=kO.cell;have f4:=k4.froz;have f5:=k5.froz;have n4:w.heap.size+1+1≠o:=by omega
 have n5:w.heap.size+1+1+1≠o:=by omega
 obtain⟨ba,oa,R,cR,D,cD,rfl,q0,q1,hR,hD,lq⟩:=hg0.rd.node Hx.out;replace q0:=zp hE q0;replace q1:=zp hE q1;go_upto_region 41 with(first|(go_at_call 47;refine(ya _ g _ _ _ (hg.ext jX) hlu.out).mono ?_;rintro e w1 ⟨rfl,hE3⟩;have hE4:Ext W w1:=jX;have m2':=(k2.ext hE4).cell;have m3':=(k3.ext hE4).cell;have mO':=(kO.ext hE4).cell));obtain⟨W5,rfl⟩: ∃W5,W5=w1:=⟨_,rfl⟩;have hE5:Ext W W5:=jX;have q0':=zp hE5 q0;have q1':=zp hE5 q1;have lq':=zh q0';have z5:=hE5.size_le;have l2:=(k2.ext hE5).lt;have l3:=(k3.ext hE5).lt;go_cut [13] (fun t wx=> ∃q,t= .pointer (some ⟨q,0,none⟩)∧Blk wx q 106 #[.slice R x.1.length cR,.slice D x.2.length cD]∧Ext W wx∧W.heap.size<=q)
 case first=>
  refine zn (W5.heap.size) [] (.take 0 (.take 1 (.take 2 (.take 3 (.take 4 (.alt 5 (.take 6 (.take 7 (.alt 8 (.alt 9 .done .none) .none))) (.alt 8 (.alt 5 (.take 6 (.take 7 (.alt 9 .done .none))) .none) .none))))))) Tryz.mixed (by kernel_rfl) ?_;intro hx;iterate 5 (first|refine jTN hx ?_|refine jTS ?_)
  refine jCN hx (fun K hK=> ?_) ?_;go_simp;go_at_call 48;refine(yc _ g i m _ (hg.ext (hE5.trans (zV hx))) hlr.out hi Hr.out).mono ?_;rintro e w1 ⟨rfl,hE1⟩;have hz1:=hE1.size_le;(try simp at hz1);(try(replace hk5:=hk5.ext hE1));refine hK _ _ ((hE1).bel _) ?_;clear hK hx;intro hx;refine jp ?_;iterate 2 (first|refine jTN hx ?_|refine jTS ?_)
  refine jTC (fun K hK=> ?_);go_simp;first|refine hK _ _ jN ?_|refine hK undef _ jN ?_
  clear hK;intro hr;(try have hk5:=zI hr);(try have hk5:=zE hr);replace hx:=hx.trans hr;clear hr;refine jp ?_;refine yl hx (fun K hK=> ?_);try(have hc5:=hk5.cell;have hf5:=hk5.froz)
  go_simp;refine hK _ jN ?_;clear hK hx;intro hx;refine zi ?_;rotate_left;refine jTC (fun K hK=> ?_);go_simp;first|refine hK _ _ jN ?_|refine hK undef _ jN ?_
  clear hK;intro hr;(try have hk5:=zI hr);(try have hk5:=zE hr);replace hx:=hx.trans hr;clear hr;refine jp ?_;refine jCN hx (fun K hK=> ?_);go_simp;go_at_call 48;refine(yc _ g i m _ (hg.ext (hE5.trans (zV hx))) hlr.out hi Hr.out).mono ?_;rintro e w1 ⟨rfl,hE1⟩;have hz1:=hE1.size_le;(try simp at hz1);(try(replace hk5:=hk5.ext hE1));refine hK _ _ ((hE1).bel _) ?_;clear hK hx;intro hx;refine jp ?_;iterate 2 (first|refine jTN hx ?_|refine jTS ?_)
  refine yl hx (fun K hK=> ?_);try(have hc5:=hk5.cell;have hf5:=hk5.froz)
  go_simp;refine hK _ jN ?_;clear hK hx;intro hx;refine zi ?_;rotate_left
  all_goals
   go_wp2;go_meet;refine⟨_,rfl,?_,hE5.trans (zV hx),by(first|omega|(simp;done)|(simp;omega))⟩
   first
    |exact Blk.new rfl
    |exact(hk5.set_ 0 _).set_ 1 _
 case rest=>
  obtain⟨q,rfl,kq,hEq,hq⟩:=hcut;have K2:=k2.ext hEq;have K3:=k3.ext hEq;have K4:=k4.ext hEq;have K5:=k5.ext hEq;have KO:=kO.ext hEq;have HG:=hG.ext hEq;have HE:=hE.trans hEq;have lt5:=k5.lt;have lt2:=K2.lt;have lt3:=K3.lt;have lt4:=K4.lt;have ltO:=KO.lt;have ltq:=kq.lt;have e1:q≠w.heap.size+1+1:=by omega
  have e2:q≠w.heap.size+1+1+1:=by omega
  have e3:q≠o:=by omega
  have e4:o≠w.heap.size+1+1:=by omega
  have e5:o≠w.heap.size+1+1+1:=by omega
  have e6:w.heap.size+1≠o:=by omega
  have e7:w.heap.size≠o:=by omega
  clear q0' q1' lq' z5 l2 l3 hE5;have C2:=K2.cell;have C3:=K3.cell;have C4:=K4.cell;have C5:=K5.cell;have CO:=KO.cell;have Cq:=kq.cell;have F4:=K4.froz;have F5:=K5.froz;have hg2:=hg.ext hEq;clear C2 C3 C4 C5 CO F4 F5;have C2:=K2.cell;have C3:=K3.cell;go_upto_region 51 with fail;cases x1<;>cases x2<;>simp only[Bool.or_true,Bool.or_false,Bool.true_or,Bool.false_or,Bool.false_eq_true]at t3
  all_goals
   go_wp2_with(first|(go_at_call 44;refine(yW _ g _ _ (hg.ext jX)).mono ?_;rintro e w1 ⟨rfl,hEf⟩;have hE2:Ext W w1:=jX;have m4':=(k4.ext hE2).cell;have m5':=(k5.ext hE2).cell;have f4':=(k4.ext hE2).froz;have f5':=(k5.ext hE2).froz));obtain⟨cF4,cF5⟩:=qZ (n:=w.heap.size) (.slice (some ⟨ba,oa,none⟩) g.ns.length a0) (.slice B0 g.us.length b0) (.slice C0 g.rs.length c0) (.int .i64 (17)) (.int .u64 0) (k4.ext hE2) (k5.ext hE2);exact bodyPost_ret (v:= .tuple #[.agg #[.slice (some ⟨ba,oa,none⟩) g.ns.length a0,.slice B0 g.us.length b0,.slice C0 g.rs.length c0],.agg #[.int .i64 (17),.int .u64 0]]) (by simp[results,Tryz.results21,go_sem,cF4,cF5]) rfl ⟨_,rfl,hg0.ext (x9 (hE.trans hE2)),x9 (hE.trans hE2)⟩
theorem zk4(v:Value)(g:Gr)(b d:Int)(i m:Nat)(x:List Int×List Int)(w:World){S:List Nat}(hSb: ∀x∈S,x<w.heap.size)(hg0:GRx S w v g)(hv:Vld g)(hb:Bd g)(hi:i<32)(hu:g.us[i]? =some true)(hr:g.rs[i]? =some (m:Int))(hx0:g.ns[m]? =some x)(hk:b<0∨(x.2.length:Int)<=b):
 Calls Tryz.prog 21 #[v,.agg #[.int .i64 4,.int .i64 ((i:Int)+1),.int .i64 b,.int .i64 d]] w (xf S w (g,17,0)):=by
 have hH: ∃x1 x2:Bool,decide (b<0)=x1∧decide ((x.2.length:Int)<=b)=x2∧(x1||x2)=true:=⟨_,_,rfl,rfl,by simpa using hk⟩;clear hk;obtain⟨x1,x2,t1,t2,t3⟩:=hH;have hg:=hg0.rd;have hlu:=Lib.hid hv.lu;have hlr:=Lib.hid hv.lr;have ha0:=xi g i true true hi hu;have ha1:(yi g ((i:Int)+1) true==0)=true:=by rw[ha0];rfl
 have ha2:(yi g ((i:Int)+1) true !=0)=false:=by rw[ha0];rfl
 have hm:=(List.getElem?_eq_some_iff.1 hx0).1;have hmb:(m:Int)<g.ns.length:=by omega
 have hn:=hv.nd m x hx0;have hn1:=hn.1;have hn2:=hn.2.1;have Hr:=Lib.hid hr;have Hx:=Lib.hid hx0;have Hn:=Lib.hid hn;have Hu:=Lib.hid hu;have b1:(i:Int)+1-1=i:=by omega
 clear ha0 hv hu hr hx0 hn;obtain⟨A0,a0,B0,b0,C0,c0,rfl⟩:=hg.sl;go_enter Tryz.func21,Tryz.ntmps21;go_upto_region 2 with(go_at_call 43;refine(ym _ g _ (hg.ext jX) hb).mono ?_;rintro e w1 ⟨vA,vB,vC,qs,rfl,hG,hE1⟩;obtain⟨A1,a1,rfl⟩:=own_slice hG.nodes;obtain⟨B1,b1,rfl⟩:=own_slice hG.used;obtain⟨C1,c1,rfl⟩:=own_slice hG.roots;have kO:Blk (w1.alloc (.cells #[.slice none 0 0,.slice none 0 0,.slice none 0 0] 41)) w1.heap.size 41 #[.slice none 0 0,.slice none 0 0,.slice none 0 0]:=Blk.new rfl;have cO:=kO.cell;have fO:=kO.froz);clear kO cO fO;have hS:=yt hg hE1 hG;clear hE1 hG hg;obtain⟨k2,k3,k4,k5,kO,hG,hg,hE,hlo,hhi⟩:=hS;generalize hW:w1.alloc (.cells #[.slice A1 g.ns.length a1,.slice B1 g.us.length b1,.slice C1 g.rs.length c1] 41)=W at*;clear hW;generalize w1.heap.size=o at*;clear w1;have m2:=k2.cell;have m3:=k3.cell;have mO:=kO.cell;have f4:=k4.froz;have f5:=k5.froz;have n4:w.heap.size+1+1≠o:=by omega
 have n5:w.heap.size+1+1+1≠o:=by omega
 obtain⟨ba,oa,R,cR,D,cD,rfl,q0,q1,hR,hD,lq⟩:=hg0.rd.node Hx.out;replace q0:=zp hE q0;replace q1:=zp hE q1;go_upto_region 41 with(first|(go_at_call 47;refine(ya _ g _ _ _ (hg.ext jX) hlu.out).mono ?_;rintro e w1 ⟨rfl,hE3⟩;have hE4:Ext W w1:=jX;have m2':=(k2.ext hE4).cell;have m3':=(k3.ext hE4).cell;have mO':=(kO.ext hE4).cell));obtain⟨W5,rfl⟩: ∃W5,W5=w1:=⟨_,rfl⟩;have hE5:Ext W W5:=jX;have q0':=zp hE5 q0;have q1':=zp hE5 q1;have lq':=zh q0';have z5:=hE5.size_le;have l2:=(k2.ext hE5).lt;have l3:=(k3.ext hE5).lt;go_cut [13] (fun t wx=> ∃q,t= .pointer (some ⟨q,0,none⟩)∧Blk wx q 106 #[.slice R x.1.length cR,.slice D x.2.length cD]∧Ext W wx∧W.heap.size<=q)
 case first=>
  refine zn (W5.heap.size) [] (.take 0 (.take 1 (.take 2 (.take 3 (.take 4 (.alt 5 (.take 6 (.take 7 (.alt 8 (.alt 9 .done .none) .none))) (.alt 8 (.alt 5 (.take 6 (.take 7 (.alt 9 .done .none))) .none) .none))))))) Tryz.mixed (by kernel_rfl) ?_;intro hx;iterate 5 (first|refine jTN hx ?_|refine jTS ?_)
  refine jCN hx (fun K hK=> ?_) ?_;go_simp;go_at_call 48;refine(yc _ g i m _ (hg.ext (hE5.trans (zV hx))) hlr.out hi Hr.out).mono ?_;rintro e w1 ⟨rfl,hE1⟩;have hz1:=hE1.size_le;(try simp at hz1);(try(replace hk5:=hk5.ext hE1));refine hK _ _ ((hE1).bel _) ?_;clear hK hx;intro hx;refine jp ?_;iterate 2 (first|refine jTN hx ?_|refine jTS ?_)
  refine jTC (fun K hK=> ?_);go_simp;first|refine hK _ _ jN ?_|refine hK undef _ jN ?_
  clear hK;intro hr;(try have hk5:=zI hr);(try have hk5:=zE hr);replace hx:=hx.trans hr;clear hr;refine jp ?_;refine yl hx (fun K hK=> ?_);try(have hc5:=hk5.cell;have hf5:=hk5.froz)
  go_simp;refine hK _ jN ?_;clear hK hx;intro hx;refine zi ?_;rotate_left;refine jTC (fun K hK=> ?_);go_simp;first|refine hK _ _ jN ?_|refine hK undef _ jN ?_
  clear hK;intro hr;(try have hk5:=zI hr);(try have hk5:=zE hr);replace hx:=hx.trans hr;clear hr;refine jp ?_;refine jCN hx (fun K hK=> ?_);go_simp;go_at_call 48;refine(yc _ g i m _ (hg.ext (hE5.trans (zV hx))) hlr.out hi Hr.out).mono ?_;rintro e w1 ⟨rfl,hE1⟩;have hz1:=hE1.size_le;(try simp at hz1);(try(replace hk5:=hk5.ext hE1));refine hK _ _ ((hE1).bel _) ?_;clear hK hx;intro hx;refine jp ?_;iterate 2 (first|refine jTN hx ?_|refine jTS ?_)
  refine yl hx (fun K hK=> ?_);try(have hc5:=hk5.cell;have hf5:=hk5.froz)
  go_simp;refine hK _ jN ?_;clear hK hx;intro hx;refine zi ?_;rotate_left
  all_goals
   go_wp2;go_meet;refine⟨_,rfl,?_,hE5.trans (zV hx),by(first|omega|(simp;done)|(simp;omega))⟩
   first
    |exact Blk.new rfl
    |exact(hk5.set_ 0 _).set_ 1 _
 case rest=>
  obtain⟨q,rfl,kq,hEq,hq⟩:=hcut;have K2:=k2.ext hEq;have K3:=k3.ext hEq;have K4:=k4.ext hEq;have K5:=k5.ext hEq;have KO:=kO.ext hEq;have HG:=hG.ext hEq;have HE:=hE.trans hEq;have lt5:=k5.lt;have lt2:=K2.lt;have lt3:=K3.lt;have lt4:=K4.lt;have ltO:=KO.lt;have ltq:=kq.lt;have e1:q≠w.heap.size+1+1:=by omega
  have e2:q≠w.heap.size+1+1+1:=by omega
  have e3:q≠o:=by omega
  have e4:o≠w.heap.size+1+1:=by omega
  have e5:o≠w.heap.size+1+1+1:=by omega
  have e6:w.heap.size+1≠o:=by omega
  have e7:w.heap.size≠o:=by omega
  clear q0' q1' lq' z5 l2 l3 hE5;have C2:=K2.cell;have C3:=K3.cell;have C4:=K4.cell;have C5:=K5.cell;have CO:=KO.cell;have Cq:=kq.cell;have F4:=K4.froz;have F5:=K5.froz;have hg2:=hg.ext hEq;clear C2 C3 C4 C5 CO F4 F5;have C2:=K2.cell;have C3:=K3.cell;go_upto_region 51 with fail;cases x1<;>cases x2<;>simp only[Bool.or_true,Bool.or_false,Bool.true_or,Bool.false_or,Bool.false_eq_true]at t3
  all_goals
   go_wp2_with(first|(go_at_call 44;refine(yW _ g _ _ (hg.ext jX)).mono ?_;rintro e w1 ⟨rfl,hEf⟩;have hE2:Ext W w1:=jX;have m4':=(k4.ext hE2).cell;have m5':=(k5.ext hE2).cell;have f4':=(k4.ext hE2).froz;have f5':=(k5.ext hE2).froz));obtain⟨cF4,cF5⟩:=qZ (n:=w.heap.size) (.slice (some ⟨ba,oa,none⟩) g.ns.length a0) (.slice B0 g.us.length b0) (.slice C0 g.rs.length c0) (.int .i64 (17)) (.int .u64 0) (k4.ext hE2) (k5.ext hE2);exact bodyPost_ret (v:= .tuple #[.agg #[.slice (some ⟨ba,oa,none⟩) g.ns.length a0,.slice B0 g.us.length b0,.slice C0 g.rs.length c0],.agg #[.int .i64 (17),.int .u64 0]]) (by simp[results,Tryz.results21,go_sem,cF4,cF5]) rfl ⟨_,rfl,hg0.ext (x9 (hE.trans hE2)),x9 (hE.trans hE2)⟩
theorem zk5(v:Value)(g:Gr)(b d:Int)(i m:Nat)(x:List Int×List Int)(w:World){S:List Nat}(hSb: ∀x∈S,x<w.heap.size)(hg0:GRx S w v g)(hv:Vld g)(hb:Bd g)(hi:i<32)(hu:g.us[i]? =some true)(hr:g.rs[i]? =some (m:Int))(hx0:g.ns[m]? =some x)(hk:b<0∨(x.2.length:Int)<=b):
 Calls Tryz.prog 21 #[v,.agg #[.int .i64 5,.int .i64 ((i:Int)+1),.int .i64 b,.int .i64 d]] w (xf S w (g,17,0)):=by
 have hH: ∃x1 x2:Bool,decide (b<0)=x1∧decide ((x.2.length:Int)<=b)=x2∧(x1||x2)=true:=⟨_,_,rfl,rfl,by simpa using hk⟩;clear hk;obtain⟨x1,x2,t1,t2,t3⟩:=hH;have hg:=hg0.rd;have hlu:=Lib.hid hv.lu;have hlr:=Lib.hid hv.lr;have ha0:=xi g i true true hi hu;have ha1:(yi g ((i:Int)+1) true==0)=true:=by rw[ha0];rfl
 have ha2:(yi g ((i:Int)+1) true !=0)=false:=by rw[ha0];rfl
 have hm:=(List.getElem?_eq_some_iff.1 hx0).1;have hmb:(m:Int)<g.ns.length:=by omega
 have hn:=hv.nd m x hx0;have hn1:=hn.1;have hn2:=hn.2.1;have Hr:=Lib.hid hr;have Hx:=Lib.hid hx0;have Hn:=Lib.hid hn;have Hu:=Lib.hid hu;have b1:(i:Int)+1-1=i:=by omega
 clear ha0 hv hu hr hx0 hn;obtain⟨A0,a0,B0,b0,C0,c0,rfl⟩:=hg.sl;go_enter Tryz.func21,Tryz.ntmps21;go_upto_region 2 with(go_at_call 43;refine(ym _ g _ (hg.ext jX) hb).mono ?_;rintro e w1 ⟨vA,vB,vC,qs,rfl,hG,hE1⟩;obtain⟨A1,a1,rfl⟩:=own_slice hG.nodes;obtain⟨B1,b1,rfl⟩:=own_slice hG.used;obtain⟨C1,c1,rfl⟩:=own_slice hG.roots;have kO:Blk (w1.alloc (.cells #[.slice none 0 0,.slice none 0 0,.slice none 0 0] 41)) w1.heap.size 41 #[.slice none 0 0,.slice none 0 0,.slice none 0 0]:=Blk.new rfl;have cO:=kO.cell;have fO:=kO.froz);clear kO cO fO;have hS:=yt hg hE1 hG;clear hE1 hG hg;obtain⟨k2,k3,k4,k5,kO,hG,hg,hE,hlo,hhi⟩:=hS;generalize hW:w1.alloc (.cells #[.slice A1 g.ns.length a1,.slice B1 g.us.length b1,.slice C1 g.rs.length c1] 41)=W at*;clear hW;generalize w1.heap.size=o at*;clear w1;have m2:=k2.cell;have m3:=k3.cell;have mO:=kO.cell;have f4:=k4.froz;have f5:=k5.froz;have n4:w.heap.size+1+1≠o:=by omega
 have n5:w.heap.size+1+1+1≠o:=by omega
 obtain⟨ba,oa,R,cR,D,cD,rfl,q0,q1,hR,hD,lq⟩:=hg0.rd.node Hx.out;replace q0:=zp hE q0;replace q1:=zp hE q1;go_upto_region 41 with(first|(go_at_call 47;refine(ya _ g _ _ _ (hg.ext jX) hlu.out).mono ?_;rintro e w1 ⟨rfl,hE3⟩;have hE4:Ext W w1:=jX;have m2':=(k2.ext hE4).cell;have m3':=(k3.ext hE4).cell;have mO':=(kO.ext hE4).cell));obtain⟨W5,rfl⟩: ∃W5,W5=w1:=⟨_,rfl⟩;have hE5:Ext W W5:=jX;have q0':=zp hE5 q0;have q1':=zp hE5 q1;have lq':=zh q0';have z5:=hE5.size_le;have l2:=(k2.ext hE5).lt;have l3:=(k3.ext hE5).lt;go_cut [13] (fun t wx=> ∃q,t= .pointer (some ⟨q,0,none⟩)∧Blk wx q 106 #[.slice R x.1.length cR,.slice D x.2.length cD]∧Ext W wx∧W.heap.size<=q)
 case first=>
  refine zn (W5.heap.size) [] (.take 0 (.take 1 (.take 2 (.take 3 (.take 4 (.alt 5 (.take 6 (.take 7 (.alt 8 (.alt 9 .done .none) .none))) (.alt 8 (.alt 5 (.take 6 (.take 7 (.alt 9 .done .none))) .none) .none))))))) Tryz.mixed (by kernel_rfl) ?_;intro hx;iterate 5 (first|refine jTN hx ?_|refine jTS ?_)
  refine jCN hx (fun K hK=> ?_) ?_;go_simp;go_at_call 48;refine(yc _ g i m _ (hg.ext (hE5.trans (zV hx))) hlr.out hi Hr.out).mono ?_;rintro e w1 ⟨rfl,hE1⟩;have hz1:=hE1.size_le;(try simp at hz1);(try(replace hk5:=hk5.ext hE1));refine hK _ _ ((hE1).bel _) ?_;clear hK hx;intro hx;refine jp ?_;iterate 2 (first|refine jTN hx ?_|refine jTS ?_)
  refine jTC (fun K hK=> ?_);go_simp;first|refine hK _ _ jN ?_|refine hK undef _ jN ?_
  clear hK;intro hr;(try have hk5:=zI hr);(try have hk5:=zE hr);replace hx:=hx.trans hr;clear hr;refine jp ?_;refine yl hx (fun K hK=> ?_);try(have hc5:=hk5.cell;have hf5:=hk5.froz)
  go_simp;refine hK _ jN ?_;clear hK hx;intro hx;refine zi ?_;rotate_left;refine jTC (fun K hK=> ?_);go_simp;first|refine hK _ _ jN ?_|refine hK undef _ jN ?_
  clear hK;intro hr;(try have hk5:=zI hr);(try have hk5:=zE hr);replace hx:=hx.trans hr;clear hr;refine jp ?_;refine jCN hx (fun K hK=> ?_);go_simp;go_at_call 48;refine(yc _ g i m _ (hg.ext (hE5.trans (zV hx))) hlr.out hi Hr.out).mono ?_;rintro e w1 ⟨rfl,hE1⟩;have hz1:=hE1.size_le;(try simp at hz1);(try(replace hk5:=hk5.ext hE1));refine hK _ _ ((hE1).bel _) ?_;clear hK hx;intro hx;refine jp ?_;iterate 2 (first|refine jTN hx ?_|refine jTS ?_)
  refine yl hx (fun K hK=> ?_);try(have hc5:=hk5.cell;have hf5:=hk5.froz)
  go_simp;refine hK _ jN ?_;clear hK hx;intro hx;refine zi ?_;rotate_left
  all_goals
   go_wp2;go_meet;refine⟨_,rfl,?_,hE5.trans (zV hx),by(first|omega|(simp;done)|(simp;omega))⟩
   first
    |exact Blk.new rfl
    |exact(hk5.set_ 0 _).set_ 1 _
 case rest=>
  obtain⟨q,rfl,kq,hEq,hq⟩:=hcut;have K2:=k2.ext hEq;have K3:=k3.ext hEq;have K4:=k4.ext hEq;have K5:=k5.ext hEq;have KO:=kO.ext hEq;have HG:=hG.ext hEq;have HE:=hE.trans hEq;have lt5:=k5.lt;have lt2:=K2.lt;have lt3:=K3.lt;have lt4:=K4.lt;have ltO:=KO.lt;have ltq:=kq.lt;have e1:q≠w.heap.size+1+1:=by omega
  have e2:q≠w.heap.size+1+1+1:=by omega
  have e3:q≠o:=by omega
  have e4:o≠w.heap.size+1+1:=by omega
  have e5:o≠w.heap.size+1+1+1:=by omega
  have e6:w.heap.size+1≠o:=by omega
  have e7:w.heap.size≠o:=by omega
  clear q0' q1' lq' z5 l2 l3 hE5;have C2:=K2.cell;have C3:=K3.cell;have C4:=K4.cell;have C5:=K5.cell;have CO:=KO.cell;have Cq:=kq.cell;have F4:=K4.froz;have F5:=K5.froz;have hg2:=hg.ext hEq;clear C2 C3 C4 C5 CO F4 F5;have C2:=K2.cell;have C3:=K3.cell;go_upto_region 51 with fail;cases x1<;>cases x2<;>simp only[Bool.or_true,Bool.or_false,Bool.true_or,Bool.false_or,Bool.false_eq_true]at t3
  all_goals
   go_wp2_with(first|(go_at_call 44;refine(yW _ g _ _ (hg.ext jX)).mono ?_;rintro e w1 ⟨rfl,hEf⟩;have hE2:Ext W w1:=jX;have m4':=(k4.ext hE2).cell;have m5':=(k5.ext hE2).cell;have f4':=(k4.ext hE2).froz;have f5':=(k5.ext hE2).froz));obtain⟨cF4,cF5⟩:=qZ (n:=w.heap.size) (.slice (some ⟨ba,oa,none⟩) g.ns.length a0) (.slice B0 g.us.length b0) (.slice C0 g.rs.length c0) (.int .i64 (17)) (.int .u64 0) (k4.ext hE2) (k5.ext hE2);exact bodyPost_ret (v:= .tuple #[.agg #[.slice (some ⟨ba,oa,none⟩) g.ns.length a0,.slice B0 g.us.length b0,.slice C0 g.rs.length c0],.agg #[.int .i64 (17),.int .u64 0]]) (by simp[results,Tryz.results21,go_sem,cF4,cF5]) rfl ⟨_,rfl,hg0.ext (x9 (hE.trans hE2)),x9 (hE.trans hE2)⟩
end Go.Proofs.YtopcdfbplknmlaaGreat.Mo
