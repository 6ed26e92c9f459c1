/- Part of the proof of the claim: walks and plain laws; each theorem states its own conditions. -/
import Derived.Test.YtopcdfbplknmlaaGreatL
import Derived.Test.YtopcdfbplknmlaaGreatG4
set_option linter.all false
set_option maxHeartbeats 4000000
set_option maxRecDepth 100000
namespace Go.Proofs.YtopcdfbplknmlaaGreat
open Go.RowKit Go.Draw
theorem vX{w:World}{base n c size:Nat}{A:Option Addr}{e:TypeId}{xs:List Value}(h:w.ownsRow base e size (.slice A n c) n xs):n<=c:=by
 obtain⟨A',c',he,hc,_⟩:=vm h;simp only[Value.slice.injEq]at he;omega
theorem ze3{w:World}{base n c k size:Nat}{A:Option Addr}{e:TypeId}{xs:List Value}(h:w.ownsRow base e size (.slice A n c) n xs)(hk:k<=n):w.ownsRow base e size (.slice A k c) k (xs.take (k*size)):=by
 obtain⟨h1,h2⟩:=h;refine⟨by rw[List.length_take,h1,Nat.min_eq_left (Nat.mul_le_mul_right _ hk)],?_⟩;rcases h2 with⟨h0,hz⟩|⟨g,cap,cur,hv,hg,hh,hn,hcap,hsz,htake⟩
 ·simp only[Value.slice.injEq]at h0
  obtain⟨rfl,_,rfl⟩:=h0;exact .inl ⟨by rw[show k=0 by omega],by omega⟩
 ·simp only[Value.slice.injEq,true_and]at hv
  obtain⟨rfl,rfl⟩:=hv;refine .inr ⟨g,c,cur,rfl,hg,hh,by omega,hcap,hsz,?_⟩;rw[<-htake,List.take_take,Nat.min_eq_left (Nat.mul_le_mul_right _ hk)]
section
variable{w w':World} {base c:Nat} {A:Option Addr} {ps:List (St×Value)}
theorem SetO.keep(h:SetO w base A c ps)(hB:But (Value.slice A ps.length c).ownBlock.toList w w'){v:Value}{l:List Nat}(hv:xU w v l):xU w' v l:=
 zo hv hB (fun b hb hm=>yk hv h.out (by decide) hb (Option.mem_toList.1 hm))
theorem SetO.store{g k:Nat}{p:St×Value}{v:Value}{l':List Nat}(h:SetO w base (some ⟨g,0,none⟩) c ps)(hk:ps[k]? =some p)(hv:xU w v l'):SetO (w.setCell ⟨g,k*3+2,none⟩ v) base (some ⟨g,0,none⟩) c (ps.set k (⟨p.1.f,p.1.g,l'⟩,v)):=by
 have hB:But (Value.slice (some ⟨g,0,none⟩) ps.length c).ownBlock.toList w (w.setCell ⟨g,k*3+2,none⟩ v):=But.setCell (But.refl _ _) (by simp[Value.ownBlock]) v;refine⟨?_,fun q hq=> ?_⟩
 ·have:=yv h.out (k*3+2) v
  rw[zcw ps k p l' v hk]at this;simpa only[List.length_set]using this
 ·rcases List.mem_or_eq_of_mem_set hq with hq|rfl
  ·exact h.keep hB (h.each q hq)
  ·exact h.keep hB hv
theorem SetO.rd(h:SetO w base A c ps):Rd w A ps.length 3 (yA ps):=Rd.of_own h.out
theorem SetO.dropR{g k:Nat}(h:SetO w base (some ⟨g,0,none⟩) c ps)(hk:k<=ps.length):Rd w (some ⟨g,k*3,none⟩) (ps.length-k) 3 (yA (ps.drop k)):=by
 have:=zdx h.rd hk (some ⟨g,k*3,none⟩) (fun _=>by rw[Nat.zero_add]);rwa[jO]at this
theorem SetO.takeO{k:Nat}(h:SetO w base A c ps)(hk:k<=ps.length):w.ownsRow base 158 3 (.slice A k c) k (yA (ps.take k)):=by
 have:=ze3 h.out hk;rwa[zbo]at this
end
section
variable{w w':World} {base c:Nat} {A:Option Addr} {ps:List (St×Value)}
theorem SetO.oneD(h:SetO w base A c ps)(k:Nat): ∀u∈yA (ps.drop k),u.oneCell'=true:=fun u hu=>h.one u (by rw[<-jO]at hu;exact List.mem_of_mem_drop hu)
theorem SetO.box(h:SetO w base A c ps){b:Nat}{cs:Array Value}(k:Blk w b 158 cs)(hb:b<base)(i:Nat)(u:Value):SetO (w.setCell ⟨b,i,none⟩ u) base A c ps:=by
 have hB:But [b] w (w.setCell ⟨b,i,none⟩ u):=But.setCell (But.refl _ _) (by simp) u;refine⟨zo h.out hB (fun g hg hm=> ?_),fun p hp=>zo (h.each p hp) hB (fun g hg hm=> ?_)⟩
 ·have:=(World.ownsRow.lt h.out g hg).1
  have:=List.mem_singleton.1 hm;omega
 ·have:=List.mem_singleton.1 hm
  subst this;exact zN (h.each p hp) k (by decide) hg
theorem zg2{k:Nat}(h:ps.length<=k):Rd w A 0 3 (yA (ps.drop k)):=by
 rw[List.drop_of_length_le h];exact Rd.nil_ _ _ _
theorem vo{N m:Nat}{S:List Nat}{o o1:Option Nat}(hg:w.grownBy w' o)(hat:o=o1∨o=some m)(h1: ∀b,o1=some b->b∈S)(hm:N<=m):Bel N S w w':=
 ⟨hg.os,hg.tape,hg.output,hg.size,fun hN k hk hs=>hg.block k (by omega) (fun e=>by
   rcases hat with hat|hat
   ·exact hs (h1 k (by rw[<-hat];exact e.symm))
   ·rw[hat]at e
    injection e with e;omega)⟩
theorem SetO.ins{A3:Option Addr}{c3 k n:Nat}{q:St×Value}(h:SetO w base A c ps)(hB:But (Value.slice A ps.length c).ownBlock.toList w w')(hq:xU w q.2 q.1.l)(hk:k<=ps.length)(hn:n=k+1+(ps.length-k))
 (ho:w'.ownsRow base 158 3 (.slice A3 n c3) n (yA (ps.take k)++ [.int .i64 q.1.f,.int .i64 q.1.g,q.2]++yA (ps.drop k))):SetO w' 0 A3 c3 (ps.take k++ [q]++ps.drop k):=by
 have hl:(ps.take k++ [q]++ps.drop k).length=n:=by
  rw[List.length_append,List.length_append,List.length_take,List.length_drop,Nat.min_eq_left hk,hn];rfl
 refine⟨?_,fun p hp=>h.keep hB ?_⟩
 ·rw[hl,qL,qL]
  exact zu ho (Nat.zero_le _)
 ·rcases List.mem_append.1 hp with hp|hp
  ·rcases List.mem_append.1 hp with hp|hp
   ·exact h.each p (List.mem_of_mem_take hp)
   ·simp only[List.mem_singleton]at hp
    subst hp;exact hq
  ·exact h.each p (List.mem_of_mem_drop hp)
end
def zqt(w:World)(ss:List St)(f g t:Nat)(r:Ending)(w':World):Prop:= ∃(ps:List (St×Value)) (A:Option Addr) (c:Nat),r= .returned (.slice A ps.length c)∧SetO w' 0 A c ps∧WfS (ps.map (·.1))∧(∀f' g' s,inS (ps.map (·.1)) f' g' s↔inS ss f' g' s∨(f'=f∧g'=g∧s=t))∧Ext w w'
theorem ziq(A0:Option Addr)(c0:Nat)(ps0:List (St×Value))(f g t:Nat)(w:World)(h:SetO w 0 A0 c0 ps0)(hw:WfS (ps0.map (·.1)))(hf:f<64)(hg:g<64)(ht:t<16384):
 Calls Tryz.prog 100 #[.slice A0 ps0.length c0,.int .i64 f,.int .i64 g,.int .i64 t] w (zqt w (ps0.map (·.1)) f g t):=by
 have hn:ps0.length<=4096:=by have:=hw.len;simpa using this
 have Hm:=Lib.hid (show∀p∈ps0,p.1.l.length<=100000 from fun p hp=>Nat.le_trans (hw.slots (List.mem_map.2 ⟨p,hp,rfl⟩)) (by omega));have Hw:=Lib.hid hw;clear hw;go_enter Tryz.func100,Tryz.ntmps100;go_upto_region 2 with fail;have k9:Blk (w.alloc (.cells #[.int .i64 f,.int .i64 g,.slice none 0 0] 158)) w.heap.size 158 #[.int .i64 f,.int .i64 g,.slice none 0 0]:=Blk.new rfl;have hE0:=Ext.alloc (Ext.refl w) (.cells #[.int .i64 f,.int .i64 g,.slice none 0 0] 158);generalize w.alloc (.cells #[.int .i64 f,.int .i64 g,.slice none 0 0] 158)=W0 at*;obtain⟨b9,hb9⟩: ∃b9,w.heap.size=b9:=⟨_,rfl⟩;rw[hb9]at k9|-;have Hb9:=Lib.hid hb9;clear hb9;go_wp2_with fail;go_loopw [10] (fun i wr=> ∃k:Nat,k<=ps0.length∧i= .int .i64 k∧(∀x∈(ps0.map (·.1)).take k,ltS x ⟨f,g,[t]⟩)∧Ext w wr∧Blk wr b9 158 #[.int .i64 f,.int .i64 g,.slice none 0 0]) (fun i _=>ps0.length-(intOf i).toNat);case atStart=>exact⟨0,by omega,rfl,by simp,hE0,k9⟩
 case round=>
  clear hE0 k9;obtain⟨k,hk,rfl,hlo,hE,k9⟩:=hrel;have Hlo:=Lib.hid hlo;clear hlo;have cB:=k9.cell;have lB:=k9.lt;by_cases hlt:k<ps0.length
  ·have hdec:decide ((k:Int)<ps0.length)=true:=by simp;omega
   have hdec':decide (k<ps0.length)=true:=by simp;omega
   have hkI:(k:Int)<ps0.length:=by omega
   obtain⟨p,hp⟩: ∃p,ps0[k]? =some p:=⟨_,List.getElem?_eq_getElem hlt⟩;obtain⟨gp,rfl,f0,f1,f2,_,lg⟩:=(h.ext hE).at_ hp;have Hp:=Lib.hid hp;have Hk1:=Lib.hid (show(ps0.map (·.1))[k]? =some p.1 by rw[List.getElem?_map,hp];rfl);clear hp;by_cases hbb:p.1.f<f∨p.1.f=f∧p.1.g<g
   ·obtain⟨bb,hbb'⟩: ∃bb,decide (p.1.f<f∨p.1.f=f∧p.1.g<g)=bb:=⟨_,rfl⟩
    have hbt:bb=true:=by rw[<-hbb'];simpa using hbb
    have Hbb:=Lib.hid hbb';have Hlt:=Lib.hid (show ltS p.1 ⟨f,g,[t]⟩from hbb);clear hbb hbb';subst hbt;go_wp2_with fail;refine jRE [(true,0),(true,1),(true,2),(true,3),(true,4),(true,5),(true,6),(true,7),(true,8),(true,9),(false,10),(true,11)] Tryz.mixed fun hx=> ?_
    repeat(first
     |refine jLE hx ?_
     |refine jLS ?_
     |(refine yo hx (fun K hK=> ?_);go_simp;go_at_call 114;refine(v9 p.1.f p.1.g f g _ _ _ _ Hbb.out).mono ?_;rintro e w1 ⟨rfl,hE1⟩;refine hK _ _ (hE1) ?_;clear hK hx;intro hx;refine jq ?_)
     |(refine yo hx (fun K hK=> ?_);go_simp;(first|refine hK _ _ jX ?_|refine hK undef _ jX ?_);clear hK hx;intro hx;try refine jq ?_))
    refine zH ?_;go_wp2_with fail;go_roundw
    case rel=>exact⟨k+1,by omega,by go_num,by
     rw[List.take_add_one,Hk1.out];intro x hm;rcases List.mem_append.1 hm with hm|hm
     ·exact Hlo.out x hm
     ·simp only[Option.toList,List.mem_singleton]at hm
      subst hm;exact Hlt.out,by exact jX,k9.ext jX⟩
    case measure=>simp[intOf];omega
   ·obtain⟨bb,hbb'⟩: ∃bb,decide (p.1.f<f∨p.1.f=f∧p.1.g<g)=bb:=⟨_,rfl⟩
    have hbt:bb=false:=by rw[<-hbb'];simpa using hbb
    have Hbb:=Lib.hid hbb';have Hnl:=Lib.hid hbb;clear hbb hbb';subst hbt;go_wp2_with fail;refine jRE [(true,0),(true,1),(true,2),(true,3),(true,4),(true,5),(true,6),(true,7),(true,8),(true,9),(false,10),(true,11)] Tryz.mixed fun hx=> ?_
    repeat(first
     |refine jLE hx ?_
     |refine jLS ?_
     |(refine yo hx (fun K hK=> ?_);go_simp;go_at_call 114;refine(v9 p.1.f p.1.g f g _ _ _ _ Hbb.out).mono ?_;rintro e w1 ⟨rfl,hE1⟩;refine hK _ _ (hE1) ?_;clear hK hx;intro hx;refine jq ?_)
     |(refine yo hx (fun K hK=> ?_);go_simp;(first|refine hK _ _ jX ?_|refine hK undef _ jX ?_);clear hK hx;intro hx;try refine jq ?_))
    refine zH ?_;go_upto_region 6 with(first|(go_at_call 62;refine(j6 _ _ ps0 _ (h.ext jX) (by omega) Hm.out).mono ?_;rintro e w1 ⟨ps,A,c,hps,rfl,hO0,hE2⟩;have hO:=hO0.base_ (b:=w.heap.size+1) (by have h1:=Hb9.out;have h2:=k9.lt;have h3:wr.heap.size<=_:=hx.size_le;omega);clear hO0));have k92:=k9.ext (show Ext wr w1 by exact jX);have hE02:Ext w w1:=by exact jX
    have hb9:=Hb9.out;have hpl:ps.length=ps0.length:=by have:=congrArg List.length hps;simpa using this
    obtain⟨gq,he,e0,e1,e2,_,lq⟩:=(h.ext hE02).at_ Hp.out;simp only[Option.some.injEq,Addr.mk.injEq,and_true]at he;subst he;have Hpl:=Lib.hid hpl;have Hps:=Lib.hid hps;clear cB lB f0 f1 f2 lg hpl hps;have cB:=k92.cell;have lB:=k92.lt;obtain⟨bc,hbc'⟩: ∃bc,decide (f<p.1.f∨f=p.1.f∧g<p.1.g)=bc:=⟨_,rfl⟩;have Hbc:=Lib.hid hbc';by_cases hbc:f<p.1.f∨f=p.1.f∧g<p.1.g
    ·have hbt:bc=true:=by rw[<-hbc'];simpa using hbc
     clear hbc';subst hbt;go_wp2_with fail;refine jRE [(true,0),(true,1),(true,2),(true,3),(true,4),(true,5),(true,6),(true,7),(true,8),(true,9),(false,10),(true,11),(true,12)] Tryz.mixed fun hx=> ?_
     repeat(first
      |refine jLE hx ?_
      |refine jLS ?_
      |(refine yo hx (fun K hK=> ?_);go_simp;go_at_call 114;refine(v9 f g p.1.f p.1.g _ _ _ _ Hbc.out).mono ?_;rintro e w1 ⟨rfl,hE3⟩;refine hK _ _ (hE3) ?_;clear hK hx;intro hx;refine jq ?_)
      |(refine yo hx (fun K hK=> ?_);go_simp;(first|refine hK _ _ jX ?_|refine hK undef _ jX ?_);clear hK hx;intro hx;try refine jq ?_))
     refine zH ?_;have kT:=k92.ext (show Ext _ w1 by exact jX);have hOT:=hO.ext (show Ext _ w1 by exact jX);have hET:Ext w w1:=by exact jX
     obtain⟨wt,hwt⟩: ∃wt,wt=w1:=⟨_,rfl⟩;subst hwt;have Hgt:=Lib.hid (zl3 (p:=⟨f,g,[t]⟩) Hw.out Hk1.out hbc);rcases hOT.out.2 with⟨h0,hz⟩|⟨gA,cap,cur,hv,_⟩
     ·have:=Hpl.out
      omega
     ·simp only[Value.slice.injEq,true_and]at hv
      obtain⟨rfl,rfl⟩:=hv;clear cB lB e0 e1 e2;have hck: ¬(c=k):=by have:=vX hOT.out;have:=Hpl.out;omega
      have hkl:k<=ps.length:=by have:=Hpl.out;omega
      have cB:=kT.cell;have fB:=kT.froz;have lB:=kT.lt;have hb9:=Hb9.out;have hzT:=hET.size_le;have hcap:ps.length<=c:=vX hOT.out;have hpl4:ps.length<=4096:=by rw[Hpl.out];exact hn
      have hpl1:ps.length<=ps0.length:=Nat.le_of_eq Hpl.out;have hpl2:ps0.length<=ps.length:=Nat.le_of_eq Hpl.out.symm;go_upto_region 10 with fail;have k5:=(kT.set_ 2 (.slice (some ⟨wt.heap.size,0,none⟩) 1 1)).alloc (.cells #[.int .i64 t] 3);have hI5:xU ((wt.setCell ⟨b9,2,none⟩ (.slice (some ⟨wt.heap.size,0,none⟩) 1 1)).alloc (.cells #[.int .i64 t] 3)) (.slice (some ⟨wt.heap.size,0,none⟩) 1 1) [t]:=qJ (cs:= [.int .i64 (t:Int)]) (by simp[World.setCell]) (Nat.zero_le _) (by omega) rfl;have hO5:=(hOT.box kT (by omega) 2 (.slice (some ⟨wt.heap.size,0,none⟩) 1 1)).ext (Ext.alloc (Ext.refl _) (.cells #[.int .i64 t] 3));have hE5:Ext w ((wt.setCell ⟨b9,2,none⟩ (.slice (some ⟨wt.heap.size,0,none⟩) 1 1)).alloc (.cells #[.int .i64 t] 3)):=Ext.alloc (Ext.setCell hET (by simp;omega) _) _;obtain⟨b7,hb7⟩: ∃b7,wt.heap.size=b7:=⟨_,rfl⟩;clear cB fB lB;generalize(wt.setCell ⟨b9,2,none⟩ (.slice (some ⟨wt.heap.size,0,none⟩) 1 1)).alloc (.cells #[.int .i64 t] 3)=W5 at*;rw[hb7]at k5 hI5|-;simp only[List.setIfInBounds_toArray,List.set_cons_zero,List.set_cons_succ]at k5;have hkp:k<=ps.length:=by omega
      have hkc:k<=c:=by omega
      have hkcI:((k:Nat):Int)<=c:=by omega
      have HD:=Lib.hid (hO5.dropR hkp);have hlO:=World.ownsRow.lt hO5.out;go_wp2_with(first|(at_builtin;refine y6 rfl Tryz.elS _ _ rfl rfl _ _ _ _ _ rfl HD.out (hO5.oneD _) (by omega) (by omega) (Nat.le_refl _) ?_;intro R rc w6 hR hE6));have hO6:=hO5.ext hE6;have hI6:=hI5.ext hE6;have k6:=k5.ext hE6;have hz6:w.heap.size+1<=w6.heap.size:=Nat.le_trans (by have:=kT.lt;have:=hE5.size_le;have:=k5.lt;omega) hE6.size_le
      have hRS:0<(ps.length-k) -> ∀ad,R=some ad->ad.block∉(Value.slice (some ⟨gA,0,none⟩) ps.length c).ownBlock.toList:=fun h0 ad had hm=>by
       obtain⟨gr,hgr,h1,_⟩:=yD hR h0;rw[had]at hgr;injection hgr with hgr;subst hgr;have:=(hlO _ (Option.mem_toList.1 hm)).2;simp only at this;omega
      have hb9S:b9∉(Value.slice (some ⟨gA,0,none⟩) ps.length c).ownBlock.toList:=fun hm=>by
       have:=(hlO _ (Option.mem_toList.1 hm)).1;omega
      have cB:=k6.cell;have lB:=k6.lt;clear kT k5;refine zn (w6.heap.size) (Value.slice (some ⟨gA,0,none⟩) ps.length c).ownBlock.toList (.take 0 (.take 1 (.take 2 (.take 3 (.take 6 (.alt 4 (.alt 5 (.alt 7 (.take 8 .done) .none) .none) .none)))))) Tryz.mixed (by kernel_rfl) ?_;intro hx;iterate 5 (first|refine jTN hx ?_|refine jTS ?_)
      refine jCN hx (fun K hK=> ?_);go_simp;first|refine hK _ _ jN ?_|refine hK undef _ jN ?_
      clear hK hx;intro hx;refine jp ?_;refine jCN hx (fun K hK=> ?_);refine zX Tryz.elS _ _ rfl (w.heap.size+1) _ _ _ rfl (zm (hO6.takeO hkp) jX) _ 1 1 _ rfl (yF _ [_,_,_] 158 1 3 rfl) (by simp[Value.oneCell']) (by omega) (by omega) (Nat.le_trans hz6 hx.size) ?_;intro A2 c2 w7 hown7 hg7 hat7;have hz7:=hx.size;refine hK _ _ ((vo hg7 (.inl rfl) (fun b hb=>Option.mem_toList.2 hb) (Nat.le_refl _))) ?_;clear hK hx;intro hx;refine jp ?_;refine jCN hx (fun K hK=> ?_);refine zX Tryz.elS _ _ rfl (w.heap.size+1) _ _ _ rfl hown7 _ (ps.length-k) _ _ rfl (qm (Rd.of_own hR) (y8 (zY hx)) hRS) (hO5.oneD _) (by omega) (by omega) (Nat.le_trans hz6 hx.size) ?_;intro A3 c3 w8 hown8 hg8 hat8;refine hK _ _ ((vo hg8 hat7 (fun b hb=>Option.mem_toList.2 hb) hz7)) ?_;clear hK hx;intro hx;refine jp ?_;first|refine jTN hx ?_|refine jTS ?_
      refine zi ?_;go_wp2;go_ret;have hB8:=y8 (zY hx);have hfin:=SetO.ins (q:=(⟨f,g,[t]⟩,.slice (some ⟨b7,0,none⟩) 1 1)) hO6 hB8 hI6 hkp (by omega) hown8;obtain⟨hw1,hw2⟩:=WfS.putB (t:=t) Hw.out Hlo.out Hgt.out hf hg ht;refine⟨_,A3,c3,?_,hfin,?_,?_,But.ext (hE5.trans hE6) hB8 (fun x hx=>by have:=(hlO _ (Option.mem_toList.1 hx)).1;omega)⟩
      ·rw[List.length_append,List.length_append,List.length_take,List.length_drop,Nat.min_eq_left hkp];rfl
      ·rw[List.map_append,List.map_append,List.map_take,List.map_drop,Hps.out]
       exact hw1
      ·rw[List.map_append,List.map_append,List.map_take,List.map_drop,Hps.out]
       exact hw2
    ·have hbt:bc=false:=by rw[<-hbc'];simpa using hbc
     have Hbcn:=Lib.hid hbc;clear hbc' hbc;subst hbt;go_wp2_with fail;refine jRE [(true,0),(true,1),(true,2),(true,3),(true,4),(true,5),(true,6),(true,7),(true,8),(true,9),(false,10),(true,11),(true,12)] Tryz.mixed fun hx=> ?_
     repeat(first
      |refine jLE hx ?_
      |refine jLS ?_
      |(refine yo hx (fun K hK=> ?_);go_simp;go_at_call 114;refine(v9 f g p.1.f p.1.g _ _ _ _ Hbc.out).mono ?_;rintro e w1 ⟨rfl,hE3⟩;refine hK _ _ (hE3) ?_;clear hK hx;intro hx;refine jq ?_)
      |(refine yo hx (fun K hK=> ?_);go_simp;(first|refine hK _ _ jX ?_|refine hK undef _ jX ?_);clear hK hx;intro hx;try refine jq ?_))
     refine zH ?_;have hOT:=hO.ext (show Ext _ w1 by exact jX);have hET:Ext w w1:=by exact jX
     obtain⟨wt,hwt⟩: ∃wt,wt=w1:=⟨_,rfl⟩;subst hwt;clear cB lB e0 e1 e2 lq;rcases hOT.out.2 with⟨h0,hz⟩|⟨gA,cap,cur,hv,_⟩
     ·have:=Hpl.out
      omega
     ·simp only[Value.slice.injEq,true_and]at hv
      obtain⟨rfl,rfl⟩:=hv;have hslT:=h.each p (List.mem_of_getElem? Hp.out)|>.ext hET;have Has:=Lib.hid (Hw.out.2 p.1 (List.mem_of_getElem? Hk1.out)).2.2.1;have hsl1:=Hw.out.slots (List.mem_of_getElem? Hk1.out);obtain⟨gq,he,e0,e1,e2,_,lq⟩:=(h.ext hET).at_ Hp.out;simp only[Option.some.injEq,Addr.mk.injEq,and_true]at he;subst he;obtain⟨P,pc,hv,_,_⟩:=vm hslT;rw[hv]at e2 hslT;have hkpI:(k:Int)<ps.length:=by have:=Hpl.out;omega
      obtain⟨q,hq⟩: ∃q,ps[k]? =some q:=⟨_,List.getElem?_eq_getElem (by omega)⟩;have Hq:=Lib.hid hq
      have Hq1:=Lib.hid (show q.1=p.1 by
       have h1:(ps.map (·.1))[k]? =some q.1:=by rw[List.getElem?_map,hq];rfl
       rw[Hps.out,Hk1.out]at h1;injection h1 with h1;exact h1.symm)
      have Hkey:=Lib.hid (show p.1.f=f∧p.1.g=g by have:=Hnl.out;have:=Hbcn.out;omega);clear hq hv;go_wp2_with(first|(go_at_call 115;refine(ze1 t _ _ p.1.l _ (hslT.ext (Ext.refl _)) Has.out (by omega)).mono ?_;rintro e w1 ⟨l2,A2,c2,rfl,hI2,ha2,hm2,hE4⟩;have hOw:=hOT.ext hE4;obtain⟨gw,hew,u0,u1,u2,hbu,lu⟩:=hOw.at_ Hq.out;simp only[Option.some.injEq,Addr.mk.injEq,and_true]at hew;subst hew;have fU:=(zz hOw.out).2));go_ret;have hfin:=SetO.store hOw Hq.out hI2;rw[Hq1.out]at hfin;obtain⟨hw1,hw2⟩:=WfS.putA (t:=t) Hw.out Hk1.out ha2 hm2 ht;have hmap:(ps.set k (⟨p.1.f,p.1.g,l2⟩,.slice A2 l2.length c2)).map (·.1)=(ps0.map (·.1)).set k ⟨p.1.f,p.1.g,l2⟩:=by rw[List.map_set,Hps.out]
      refine⟨_,some ⟨gA,0,none⟩,c,?_,hfin.base_ (Nat.zero_le _),by rw[hmap];exact hw1,by rw[hmap,Hkey.out.1,Hkey.out.2]at*;exact hw2,Ext.setCell (hET.trans hE4) (by simp;omega) _⟩;rw[List.length_set];rfl
  ·have Hke0:=Lib.hid (show k=ps0.length by omega)
   have hdec:decide ((k:Int)<ps0.length)=false:=by simp;omega
   have hdec':decide (k<ps0.length)=false:=by simp;omega
   go_wp2_with fail;refine jRE [(true,0),(true,1),(true,2),(true,3),(true,4),(true,5),(true,6),(true,7),(true,8),(true,9),(false,10),(true,11)] Tryz.mixed fun hx=> ?_
   repeat(first
    |refine jLE hx ?_
    |refine jLS ?_
    |(refine yo hx (fun K hK=> ?_);go_simp;go_at_call 114;refine(v9 p.1.f p.1.g f g _ _ _ _ Hbb.out).mono ?_;rintro e w1 ⟨rfl,hE1⟩;refine hK _ _ (hE1) ?_;clear hK hx;intro hx;refine jq ?_)
    |(refine yo hx (fun K hK=> ?_);go_simp;(first|refine hK _ _ jX ?_|refine hK undef _ jX ?_);clear hK hx;intro hx;try refine jq ?_))
   refine zH ?_;go_upto_region 6 with(first|(go_at_call 62;refine(j6 _ _ ps0 _ (h.ext jX) (by omega) Hm.out).mono ?_;rintro e w1 ⟨ps,A,c,hps,rfl,hO0,hE2⟩;have hO:=hO0.base_ (b:=w.heap.size+1) (by have h1:=Hb9.out;have h2:=k9.lt;have h3:wr.heap.size<=_:=hx.size_le;omega);clear hO0));have k92:=k9.ext (show Ext wr w1 by exact jX);have hE02:Ext w w1:=by exact jX
   have hpl:ps.length=ps0.length:=by have:=congrArg List.length hps;simpa using this
   have Hpl:=Lib.hid hpl;have Hps:=Lib.hid hps;have Hke:=Lib.hid (Hke0.out.trans hpl.symm);clear cB lB hpl hps;have cB:=k92.cell;have lB:=k92.lt;go_wp2_with fail;refine jRE [(true,0),(true,1),(true,2),(true,3),(true,4),(true,5),(true,6),(true,7),(true,8),(true,9),(false,10),(true,11),(true,12)] Tryz.mixed fun hx=> ?_
   repeat(first
    |refine jLE hx ?_
    |refine jLS ?_
    |(refine yo hx (fun K hK=> ?_);go_simp;go_at_call 114;refine(v9 f g p.1.f p.1.g _ _ _ _ Hbc.out).mono ?_;rintro e w1 ⟨rfl,hE3⟩;refine hK _ _ (hE3) ?_;clear hK hx;intro hx;refine jq ?_)
    |(refine yo hx (fun K hK=> ?_);go_simp;(first|refine hK _ _ jX ?_|refine hK undef _ jX ?_);clear hK hx;intro hx;try refine jq ?_))
   refine zH ?_;have kT:=k92.ext (Ext.drew (Ext.refl _));have hOT:=hO.ext (Ext.drew (Ext.refl _));have hET:Ext w w1.drew:=hE02.drew;generalize w1.drew=wt at*;clear cB lB hx hE2 k92 hO hE02;have hk0:(ps0.map (·.1)).take k=ps0.map (·.1):=by rw[Hke.out,Hpl.out];exact List.take_of_length_le (by simp)
   have hd0:(ps0.map (·.1)).drop k= []:=by rw[Hke.out,Hpl.out];exact List.drop_of_length_le (by simp)
   have Hgt:=Lib.hid (show∀x∈(ps0.map (·.1)).drop k,ltS ⟨f,g,[t]⟩ x by rw[hd0];simp);clear hk0 hd0;have hke1:k<=ps.length:=Nat.le_of_eq Hke.out;have hke2:ps.length<=k:=Nat.le_of_eq Hke.out.symm;rcases hOT.out.2 with⟨h0,hz⟩|⟨gA,cap,cur,hv,_⟩
   ·simp only[Value.slice.injEq]at h0
    obtain⟨rfl,hz1,hc0⟩:=h0;clear hz hz1 hc0;have cB:=kT.cell;have fB:=kT.froz;have lB:=kT.lt;have hb9:=Hb9.out;have hzT:=hET.size_le;have hcap:ps.length<=c:=vX hOT.out;have hpl4:ps.length<=4096:=by rw[Hpl.out];exact hn
    have hpl1:ps.length<=ps0.length:=Nat.le_of_eq Hpl.out;have hpl2:ps0.length<=ps.length:=Nat.le_of_eq Hpl.out.symm;go_upto_region 10 with fail;have k5:=(kT.set_ 2 (.slice (some ⟨wt.heap.size,0,none⟩) 1 1)).alloc (.cells #[.int .i64 t] 3);have hI5:xU ((wt.setCell ⟨b9,2,none⟩ (.slice (some ⟨wt.heap.size,0,none⟩) 1 1)).alloc (.cells #[.int .i64 t] 3)) (.slice (some ⟨wt.heap.size,0,none⟩) 1 1) [t]:=qJ (cs:= [.int .i64 (t:Int)]) (by simp[World.setCell]) (Nat.zero_le _) (by omega) rfl;have hO5:=(hOT.box kT (by omega) 2 (.slice (some ⟨wt.heap.size,0,none⟩) 1 1)).ext (Ext.alloc (Ext.refl _) (.cells #[.int .i64 t] 3));have hE5:Ext w ((wt.setCell ⟨b9,2,none⟩ (.slice (some ⟨wt.heap.size,0,none⟩) 1 1)).alloc (.cells #[.int .i64 t] 3)):=Ext.alloc (Ext.setCell hET (by simp;omega) _) _;obtain⟨b7,hb7⟩: ∃b7,wt.heap.size=b7:=⟨_,rfl⟩;clear cB fB lB;generalize(wt.setCell ⟨b9,2,none⟩ (.slice (some ⟨wt.heap.size,0,none⟩) 1 1)).alloc (.cells #[.int .i64 t] 3)=W5 at*;rw[hb7]at k5 hI5|-;simp only[List.setIfInBounds_toArray,List.set_cons_zero,List.set_cons_succ]at k5;have hkp:k<=ps.length:=by omega
    have hkc:k<=c:=by omega
    have hkcI:((k:Nat):Int)<=c:=by omega
    have HD:=Lib.hid (show Rd W5 none 0 3 (yA (ps.drop k))from zg2 hke2);have hlO:=World.ownsRow.lt hO5.out;go_wp2_with(first|(at_builtin;refine y6 rfl Tryz.elS _ _ rfl rfl _ _ _ _ _ rfl HD.out (hO5.oneD _) (by omega) (by omega) (Nat.le_refl _) ?_;intro R rc w6 hR hE6));have hO6:=hO5.ext hE6;have hI6:=hI5.ext hE6;have k6:=k5.ext hE6;have hz6:w.heap.size+1<=w6.heap.size:=Nat.le_trans (by have:=kT.lt;have:=hE5.size_le;have:=k5.lt;omega) hE6.size_le
    have hRS:0<0-> ∀ad,R=some ad->ad.block∉(Value.slice none ps.length c).ownBlock.toList:=fun h0 ad had hm=>by
     obtain⟨gr,hgr,h1,_⟩:=yD hR h0;rw[had]at hgr;injection hgr with hgr;subst hgr;have:=(hlO _ (Option.mem_toList.1 hm)).2;simp only at this;omega
    have hb9S:b9∉(Value.slice none ps.length c).ownBlock.toList:=fun hm=>by
     have:=(hlO _ (Option.mem_toList.1 hm)).1;omega
    have cB:=k6.cell;have lB:=k6.lt;clear kT k5;refine zn (w6.heap.size) (Value.slice none ps.length c).ownBlock.toList (.take 0 (.take 1 (.take 2 (.take 3 (.take 6 (.alt 4 (.alt 5 (.alt 7 (.take 8 .done) .none) .none) .none)))))) Tryz.mixed (by kernel_rfl) ?_;intro hx;iterate 5 (first|refine jTN hx ?_|refine jTS ?_)
    refine jCN hx (fun K hK=> ?_);go_simp;first|refine hK _ _ jN ?_|refine hK undef _ jN ?_
    clear hK hx;intro hx;refine jp ?_;refine jCN hx (fun K hK=> ?_);refine zX Tryz.elS _ _ rfl (w.heap.size+1) _ _ _ rfl (zm (hO6.takeO hkp) jX) _ 1 1 _ rfl (yF _ [_,_,_] 158 1 3 rfl) (by simp[Value.oneCell']) (by omega) (by omega) (Nat.le_trans hz6 hx.size) ?_;intro A2 c2 w7 hown7 hg7 hat7;have hz7:=hx.size;refine hK _ _ ((vo hg7 (.inl rfl) (fun b hb=>Option.mem_toList.2 hb) (Nat.le_refl _))) ?_;clear hK hx;intro hx;refine jp ?_;refine jCN hx (fun K hK=> ?_);refine zX Tryz.elS _ _ rfl (w.heap.size+1) _ _ _ rfl hown7 _ 0 _ _ rfl (qm (Rd.of_own hR) (y8 (zY hx)) hRS) (hO5.oneD _) (by omega) (by omega) (Nat.le_trans hz6 hx.size) ?_;intro A3 c3 w8 hown8 hg8 hat8;refine hK _ _ ((vo hg8 hat7 (fun b hb=>Option.mem_toList.2 hb) hz7)) ?_;clear hK hx;intro hx;refine jp ?_;first|refine jTN hx ?_|refine jTS ?_
    refine zi ?_;go_wp2;go_ret;have hB8:=y8 (zY hx);have hfin:=SetO.ins (q:=(⟨f,g,[t]⟩,.slice (some ⟨b7,0,none⟩) 1 1)) hO6 hB8 hI6 hkp (by omega) hown8;obtain⟨hw1,hw2⟩:=WfS.putB (t:=t) Hw.out Hlo.out Hgt.out hf hg ht;refine⟨_,A3,c3,?_,hfin,?_,?_,But.ext (hE5.trans hE6) hB8 (fun x hx=>by have:=(hlO _ (Option.mem_toList.1 hx)).1;omega)⟩
    ·rw[List.length_append,List.length_append,List.length_take,List.length_drop,Nat.min_eq_left hkp];rw[Nat.sub_eq_zero_of_le hke2];rfl
    ·rw[List.map_append,List.map_append,List.map_take,List.map_drop,Hps.out]
     exact hw1
    ·rw[List.map_append,List.map_append,List.map_take,List.map_drop,Hps.out]
     exact hw2
   ·simp only[Value.slice.injEq,true_and]at hv
    obtain⟨rfl,rfl⟩:=hv;by_cases hck:c=k
    ·have hck':(c=k)=True:=by simp[hck]
     clear hck;have cB:=kT.cell;have fB:=kT.froz;have lB:=kT.lt;have hb9:=Hb9.out;have hzT:=hET.size_le;have hcap:ps.length<=c:=vX hOT.out;have hpl4:ps.length<=4096:=by rw[Hpl.out];exact hn
     have hpl1:ps.length<=ps0.length:=Nat.le_of_eq Hpl.out;have hpl2:ps0.length<=ps.length:=Nat.le_of_eq Hpl.out.symm;go_upto_region 10 with fail;have k5:=(kT.set_ 2 (.slice (some ⟨wt.heap.size,0,none⟩) 1 1)).alloc (.cells #[.int .i64 t] 3);have hI5:xU ((wt.setCell ⟨b9,2,none⟩ (.slice (some ⟨wt.heap.size,0,none⟩) 1 1)).alloc (.cells #[.int .i64 t] 3)) (.slice (some ⟨wt.heap.size,0,none⟩) 1 1) [t]:=qJ (cs:= [.int .i64 (t:Int)]) (by simp[World.setCell]) (Nat.zero_le _) (by omega) rfl;have hO5:=(hOT.box kT (by omega) 2 (.slice (some ⟨wt.heap.size,0,none⟩) 1 1)).ext (Ext.alloc (Ext.refl _) (.cells #[.int .i64 t] 3));have hE5:Ext w ((wt.setCell ⟨b9,2,none⟩ (.slice (some ⟨wt.heap.size,0,none⟩) 1 1)).alloc (.cells #[.int .i64 t] 3)):=Ext.alloc (Ext.setCell hET (by simp;omega) _) _;obtain⟨b7,hb7⟩: ∃b7,wt.heap.size=b7:=⟨_,rfl⟩;clear cB fB lB;generalize(wt.setCell ⟨b9,2,none⟩ (.slice (some ⟨wt.heap.size,0,none⟩) 1 1)).alloc (.cells #[.int .i64 t] 3)=W5 at*;rw[hb7]at k5 hI5|-;simp only[List.setIfInBounds_toArray,List.set_cons_zero,List.set_cons_succ]at k5;have hkp:k<=ps.length:=by omega
     have hkc:k<=c:=by omega
     have hkcI:((k:Nat):Int)<=c:=by omega
     have HD:=Lib.hid (show Rd W5 (some ⟨gA,0,none⟩) 0 3 (yA (ps.drop k))from zg2 hke2);have hlO:=World.ownsRow.lt hO5.out;go_wp2_with(first|(at_builtin;refine y6 rfl Tryz.elS _ _ rfl rfl _ _ _ _ _ rfl HD.out (hO5.oneD _) (by omega) (by omega) (Nat.le_refl _) ?_;intro R rc w6 hR hE6));have hO6:=hO5.ext hE6;have hI6:=hI5.ext hE6;have k6:=k5.ext hE6;have hz6:w.heap.size+1<=w6.heap.size:=Nat.le_trans (by have:=kT.lt;have:=hE5.size_le;have:=k5.lt;omega) hE6.size_le
     have hRS:0<0-> ∀ad,R=some ad->ad.block∉(Value.slice (some ⟨gA,0,none⟩) ps.length c).ownBlock.toList:=fun h0 ad had hm=>by
      obtain⟨gr,hgr,h1,_⟩:=yD hR h0;rw[had]at hgr;injection hgr with hgr;subst hgr;have:=(hlO _ (Option.mem_toList.1 hm)).2;simp only at this;omega
     have hb9S:b9∉(Value.slice (some ⟨gA,0,none⟩) ps.length c).ownBlock.toList:=fun hm=>by
      have:=(hlO _ (Option.mem_toList.1 hm)).1;omega
     have cB:=k6.cell;have lB:=k6.lt;clear kT k5;refine zn (w6.heap.size) (Value.slice (some ⟨gA,0,none⟩) ps.length c).ownBlock.toList (.take 0 (.take 1 (.take 2 (.take 3 (.take 6 (.alt 4 (.alt 5 (.alt 7 (.take 8 .done) .none) .none) .none)))))) Tryz.mixed (by kernel_rfl) ?_;intro hx;iterate 5 (first|refine jTN hx ?_|refine jTS ?_)
     refine jCN hx (fun K hK=> ?_);go_simp;first|refine hK _ _ jN ?_|refine hK undef _ jN ?_
     clear hK hx;intro hx;refine jp ?_;refine jCN hx (fun K hK=> ?_);refine zX Tryz.elS _ _ rfl (w.heap.size+1) _ _ _ rfl (zm (hO6.takeO hkp) jX) _ 1 1 _ rfl (yF _ [_,_,_] 158 1 3 rfl) (by simp[Value.oneCell']) (by omega) (by omega) (Nat.le_trans hz6 hx.size) ?_;intro A2 c2 w7 hown7 hg7 hat7;have hz7:=hx.size;refine hK _ _ ((vo hg7 (.inl rfl) (fun b hb=>Option.mem_toList.2 hb) (Nat.le_refl _))) ?_;clear hK hx;intro hx;refine jp ?_;refine jCN hx (fun K hK=> ?_);refine zX Tryz.elS _ _ rfl (w.heap.size+1) _ _ _ rfl hown7 _ 0 _ _ rfl (qm (Rd.of_own hR) (y8 (zY hx)) hRS) (hO5.oneD _) (by omega) (by omega) (Nat.le_trans hz6 hx.size) ?_;intro A3 c3 w8 hown8 hg8 hat8;refine hK _ _ ((vo hg8 hat7 (fun b hb=>Option.mem_toList.2 hb) hz7)) ?_;clear hK hx;intro hx;refine jp ?_;first|refine jTN hx ?_|refine jTS ?_
     refine zi ?_;go_wp2;go_ret;have hB8:=y8 (zY hx);have hfin:=SetO.ins (q:=(⟨f,g,[t]⟩,.slice (some ⟨b7,0,none⟩) 1 1)) hO6 hB8 hI6 hkp (by omega) hown8;obtain⟨hw1,hw2⟩:=WfS.putB (t:=t) Hw.out Hlo.out Hgt.out hf hg ht;refine⟨_,A3,c3,?_,hfin,?_,?_,But.ext (hE5.trans hE6) hB8 (fun x hx=>by have:=(hlO _ (Option.mem_toList.1 hx)).1;omega)⟩
     ·rw[List.length_append,List.length_append,List.length_take,List.length_drop,Nat.min_eq_left hkp];rw[Nat.sub_eq_zero_of_le hke2];rfl
     ·rw[List.map_append,List.map_append,List.map_take,List.map_drop,Hps.out]
      exact hw1
     ·rw[List.map_append,List.map_append,List.map_take,List.map_drop,Hps.out]
      exact hw2
    ·skip
     have cB:=kT.cell;have fB:=kT.froz;have lB:=kT.lt;have hb9:=Hb9.out;have hzT:=hET.size_le;have hcap:ps.length<=c:=vX hOT.out;have hpl4:ps.length<=4096:=by rw[Hpl.out];exact hn
     have hpl1:ps.length<=ps0.length:=Nat.le_of_eq Hpl.out;have hpl2:ps0.length<=ps.length:=Nat.le_of_eq Hpl.out.symm;go_upto_region 10 with fail;have k5:=(kT.set_ 2 (.slice (some ⟨wt.heap.size,0,none⟩) 1 1)).alloc (.cells #[.int .i64 t] 3);have hI5:xU ((wt.setCell ⟨b9,2,none⟩ (.slice (some ⟨wt.heap.size,0,none⟩) 1 1)).alloc (.cells #[.int .i64 t] 3)) (.slice (some ⟨wt.heap.size,0,none⟩) 1 1) [t]:=qJ (cs:= [.int .i64 (t:Int)]) (by simp[World.setCell]) (Nat.zero_le _) (by omega) rfl;have hO5:=(hOT.box kT (by omega) 2 (.slice (some ⟨wt.heap.size,0,none⟩) 1 1)).ext (Ext.alloc (Ext.refl _) (.cells #[.int .i64 t] 3));have hE5:Ext w ((wt.setCell ⟨b9,2,none⟩ (.slice (some ⟨wt.heap.size,0,none⟩) 1 1)).alloc (.cells #[.int .i64 t] 3)):=Ext.alloc (Ext.setCell hET (by simp;omega) _) _;obtain⟨b7,hb7⟩: ∃b7,wt.heap.size=b7:=⟨_,rfl⟩;clear cB fB lB;generalize(wt.setCell ⟨b9,2,none⟩ (.slice (some ⟨wt.heap.size,0,none⟩) 1 1)).alloc (.cells #[.int .i64 t] 3)=W5 at*;rw[hb7]at k5 hI5|-;simp only[List.setIfInBounds_toArray,List.set_cons_zero,List.set_cons_succ]at k5;have hkp:k<=ps.length:=by omega
     have hkc:k<=c:=by omega
     have hkcI:((k:Nat):Int)<=c:=by omega
     have HD:=Lib.hid (show Rd W5 (some ⟨gA,k*3,none⟩) 0 3 (yA (ps.drop k))from zg2 hke2);have hlO:=World.ownsRow.lt hO5.out;go_wp2_with(first|(at_builtin;refine y6 rfl Tryz.elS _ _ rfl rfl _ _ _ _ _ rfl HD.out (hO5.oneD _) (by omega) (by omega) (Nat.le_refl _) ?_;intro R rc w6 hR hE6));have hO6:=hO5.ext hE6;have hI6:=hI5.ext hE6;have k6:=k5.ext hE6;have hz6:w.heap.size+1<=w6.heap.size:=Nat.le_trans (by have:=kT.lt;have:=hE5.size_le;have:=k5.lt;omega) hE6.size_le
     have hRS:0<0-> ∀ad,R=some ad->ad.block∉(Value.slice (some ⟨gA,0,none⟩) ps.length c).ownBlock.toList:=fun h0 ad had hm=>by
      obtain⟨gr,hgr,h1,_⟩:=yD hR h0;rw[had]at hgr;injection hgr with hgr;subst hgr;have:=(hlO _ (Option.mem_toList.1 hm)).2;simp only at this;omega
     have hb9S:b9∉(Value.slice (some ⟨gA,0,none⟩) ps.length c).ownBlock.toList:=fun hm=>by
      have:=(hlO _ (Option.mem_toList.1 hm)).1;omega
     have cB:=k6.cell;have lB:=k6.lt;clear kT k5;refine zn (w6.heap.size) (Value.slice (some ⟨gA,0,none⟩) ps.length c).ownBlock.toList (.take 0 (.take 1 (.take 2 (.take 3 (.take 6 (.alt 4 (.alt 5 (.alt 7 (.take 8 .done) .none) .none) .none)))))) Tryz.mixed (by kernel_rfl) ?_;intro hx;iterate 5 (first|refine jTN hx ?_|refine jTS ?_)
     refine jCN hx (fun K hK=> ?_);go_simp;first|refine hK _ _ jN ?_|refine hK undef _ jN ?_
     clear hK hx;intro hx;refine jp ?_;refine jCN hx (fun K hK=> ?_);refine zX Tryz.elS _ _ rfl (w.heap.size+1) _ _ _ rfl (zm (hO6.takeO hkp) jX) _ 1 1 _ rfl (yF _ [_,_,_] 158 1 3 rfl) (by simp[Value.oneCell']) (by omega) (by omega) (Nat.le_trans hz6 hx.size) ?_;intro A2 c2 w7 hown7 hg7 hat7;have hz7:=hx.size;refine hK _ _ ((vo hg7 (.inl rfl) (fun b hb=>Option.mem_toList.2 hb) (Nat.le_refl _))) ?_;clear hK hx;intro hx;refine jp ?_;refine jCN hx (fun K hK=> ?_);refine zX Tryz.elS _ _ rfl (w.heap.size+1) _ _ _ rfl hown7 _ 0 _ _ rfl (qm (Rd.of_own hR) (y8 (zY hx)) hRS) (hO5.oneD _) (by omega) (by omega) (Nat.le_trans hz6 hx.size) ?_;intro A3 c3 w8 hown8 hg8 hat8;refine hK _ _ ((vo hg8 hat7 (fun b hb=>Option.mem_toList.2 hb) hz7)) ?_;clear hK hx;intro hx;refine jp ?_;first|refine jTN hx ?_|refine jTS ?_
     refine zi ?_;go_wp2;go_ret;have hB8:=y8 (zY hx);have hfin:=SetO.ins (q:=(⟨f,g,[t]⟩,.slice (some ⟨b7,0,none⟩) 1 1)) hO6 hB8 hI6 hkp (by omega) hown8;obtain⟨hw1,hw2⟩:=WfS.putB (t:=t) Hw.out Hlo.out Hgt.out hf hg ht;refine⟨_,A3,c3,?_,hfin,?_,?_,But.ext (hE5.trans hE6) hB8 (fun x hx=>by have:=(hlO _ (Option.mem_toList.1 hx)).1;omega)⟩
     ·rw[List.length_append,List.length_append,List.length_take,List.length_drop,Nat.min_eq_left hkp];rw[Nat.sub_eq_zero_of_le hke2];rfl
     ·rw[List.map_append,List.map_append,List.map_take,List.map_drop,Hps.out]
      exact hw1
     ·rw[List.map_append,List.map_append,List.map_take,List.map_drop,Hps.out]
      exact hw2
def zg3(w:World)(P:List St->Prop)(r:Ending)(w':World):Prop:= ∃(ps:List (St×Value)) (A:Option Addr) (c:Nat),r= .returned (.slice A ps.length c)∧SetO w' 0 A c ps∧P (ps.map (·.1))∧Ext w w'
def qH(fr:List Nat)(ss:List St):List St:=ss.filter fun x=>decide (x.f∉fr∧x.g∉fr)
theorem zl5(fr:List Nat)(ss:List St)(f g t:Nat):inS (qH fr ss) f g t↔inS ss f g t∧f∉fr∧g∉fr:=by
 unfold inS qH;constructor
 ·rintro⟨x,hx,rfl,rfl,ht⟩
  obtain⟨h1,h2⟩:=List.mem_filter.1 hx;simp only[decide_eq_true_eq]at h2;exact⟨⟨x,h1,rfl,rfl,ht⟩,h2⟩
 ·rintro⟨⟨x,hx,rfl,rfl,ht⟩,h2⟩
  exact⟨x,List.mem_filter.2 ⟨hx,by simpa using h2⟩,rfl,rfl,ht⟩
theorem zl6{fr:List Nat}{ss:List St}(h:WfS ss):WfS (qH fr ss):=⟨h.1.filter _,fun x hx=>h.2 x (List.mem_filter.1 hx).1⟩
theorem qy{l:List Nat}{v:Nat}:(v:Int)∈yB l↔v∈l:=by
 unfold yB;rw[List.mem_map]
 exact⟨fun⟨a,h,e⟩=>by have:a=v:=Int.ofNat.inj e
                      rwa[<-this],fun h=>⟨v,h,rfl⟩⟩
theorem zl7(A0 F:Option Addr)(c0 cf:Nat)(ps0:List (St×Value))(fr:List Nat)(w:World)(h:SetO w 0 A0 c0 ps0)(hw:WfS (ps0.map (·.1)))(hF:Rd w F fr.length 1 (yb (yB fr)))(hfl:fr.length<=100000):
 Calls Tryz.prog 122 #[.slice A0 ps0.length c0,.slice F fr.length cf] w (zg3 w fun ss=>ss=qH fr (ps0.map (·.1))):=by
 have hn:ps0.length<=4096:=by have:=hw.len;simpa using this
 have Hm:=Lib.hid (show∀p∈ps0,p.1.l.length<=100000 from fun p hp=>Nat.le_trans (hw.slots (List.mem_map.2 ⟨p,hp,rfl⟩)) (by omega));have hFl:(yB fr).length=fr.length:=qw fr;have HFl:=Lib.hid hFl;rw[<-hFl]at hF|-;clear hFl hw;go_enter Tryz.func122,Tryz.ntmps122;go_wp2_with(first|(go_at_call 62;refine(j6 _ _ ps0 _ h (by omega) Hm.out).mono ?_;rintro e w1 ⟨ps,A,c,hps,rfl,hO0,hE1⟩));have hO:=hO0.base_ (Nat.zero_le _);have hpl:ps.length=ps0.length:=by have:=congrArg List.length hps;simpa using this
 have hpb:ps.length<=4096:=by omega
 have Hps:=Lib.hid hps;clear hpl hps hO0;obtain⟨wc,hwc⟩: ∃wc,wc=w1:=⟨_,rfl⟩;subst hwc;go_loopw [5,11] (fun s i wr=> ∃(k:Nat) (qs:List (St×Value)) (D:Option Addr) (d:Nat),k<=ps.length∧i= .int .i64 k∧s= .slice D qs.length d∧qs.length<=k∧qs.map (·.1)=qH fr ((ps.take k).map (·.1))∧SetO wr wc.heap.size D d qs∧Ext wc wr) (fun _ i _=>ps.length-(intOf i).toNat);case atStart=>exact⟨0,[],none,0,by omega,rfl,rfl,by simp,by simp[qH],⟨zP _ _ _ _,by simp⟩,by exact jX⟩
 case round=>
  obtain⟨k,qs,D,d,hk,rfl,rfl,hql,hqs,hD,hE⟩:=hrel;have Hqs:=Lib.hid hqs;clear hqs;by_cases hlt:k<ps.length
  ·have hdec:decide ((k:Int)<ps.length)=true:=by simp;omega
   have hdec':decide (k<ps.length)=true:=by simp;omega
   have hkI:(k:Int)<ps.length:=by omega
   obtain⟨p,hp⟩: ∃p,ps[k]? =some p:=⟨_,List.getElem?_eq_getElem hlt⟩;obtain⟨g,rfl,f0,f1,f2,_,lg⟩:=(hO.ext hE).at_ hp;have hv0:=(hO.ext hE).each p (List.mem_of_getElem? hp);obtain⟨P,pc,hpv,_,_⟩:=vm hv0;rw[hpv]at f2 hv0;have Hpv:=Lib.hid hpv;clear hpv;have Htk:=Lib.hid (show(ps.take (k+1)).map (·.1)=(ps.take k).map (·.1)++ [p.1] by rw[List.take_add_one,hp,List.map_append];rfl);clear hp;go_upto_region 5 with fail;have hEW:=Ext.alloc (Ext.refl wr) (.cells #[.int .i64 p.1.f,.int .i64 p.1.g,.slice P p.1.l.length pc] 158);have kB:Blk (wr.alloc (.cells #[.int .i64 p.1.f,.int .i64 p.1.g,.slice P p.1.l.length pc] 158)) wr.heap.size 158 #[.int .i64 p.1.f,.int .i64 p.1.g,.slice P p.1.l.length pc]:=Blk.new rfl;obtain⟨b5,hb5⟩: ∃b5,wr.heap.size=b5:=⟨_,rfl⟩;have hD5:=hD.ext hEW;have hE5:=hE.trans hEW;have hv5:=hv0.ext hEW;generalize wr.alloc (.cells #[.int .i64 p.1.f,.int .i64 p.1.g,.slice P p.1.l.length pc] 158)=W at*;rw[hb5]at kB|-;clear hb5 hEW;have cB:=kB.cell;have lB:=kB.lt
   have Hno:=Lib.hid (show(p.1.f∈fr∨p.1.g∈fr) ->qH fr ((ps.take (k+1)).map (·.1))=qH fr ((ps.take k).map (·.1))from fun h=>by
    rw[Htk.out];unfold qH;rw[List.filter_append,List.filter_cons,if_neg (by simp only[decide_eq_true_eq];intro h2;rcases h with h|h;exact h2.1 h;exact h2.2 h)];simp)
   by_cases h1:p.1.f∈fr
   ·have d1:decide ((p.1.f:Int)∈yB fr)=true:=by simpa using qy.2 h1
    go_wp2_with(first|(go_at_call 124;refine(zju _ _ (yB fr) _ _ _ (hF.ext jX) (by rw[qw];omega) rfl).mono ?_;rintro e w1 ⟨rfl,hE2⟩;replace kB:=kB.ext hE2;have cB:=kB.cell;have lB:=kB.lt));go_roundw;case rel=>exact⟨k+1,qs,D,d,by omega,by go_num,rfl,by omega,by rw[Hqs.out,Hno.out (.inl h1)],hD5.ext jX,by exact jX⟩
    case measure=>simp[intOf];omega
   ·have d1:decide ((p.1.f:Int)∈yB fr)=false:=by simpa using fun h=>h1 (qy.1 h)
    by_cases h2:p.1.g∈fr
    ·have d2:decide ((p.1.g:Int)∈yB fr)=true:=by simpa using qy.2 h2
     go_wp2_with(first|(go_at_call 124;refine(zju _ _ (yB fr) _ _ _ (hF.ext jX) (by rw[qw];omega) rfl).mono ?_;rintro e w1 ⟨rfl,hE2⟩;replace kB:=kB.ext hE2;have cB:=kB.cell;have lB:=kB.lt));go_roundw;case rel=>exact⟨k+1,qs,D,d,by omega,by go_num,rfl,by omega,by rw[Hqs.out,Hno.out (.inr h2)],hD5.ext jX,by exact jX⟩
     case measure=>simp[intOf];omega
    ·have d2:decide ((p.1.g:Int)∈yB fr)=false:=by simpa using fun h=>h2 (qy.1 h)
     go_upto_region 6 with(first|(go_at_call 124;refine(zju _ _ (yB fr) _ _ _ (hF.ext jX) (by rw[qw];omega) rfl).mono ?_;rintro e w1 ⟨rfl,hE2⟩;replace kB:=kB.ext hE2;have cB:=kB.cell;have lB:=kB.lt));have hD6:=hD5.ext (show Ext W w1 by exact jX);have hv6:=hv5.ext (show Ext W w1 by exact jX);have hE6:Ext wc w1:=by exact jX
     have hsz6:=hE6.size_le;go_wp2_with(first|(at_builtin;refine zJ rfl Tryz.elS _ _ rfl wc.heap.size _ _ _ rfl (zm hD6.out jX) _ 1 1 _ rfl (yF _ [_,_,_] 158 1 3 rfl) (by simp[Value.oneCell']) (by omega) (by omega) (by(first|omega|(simp;done)|(simp;omega))) ?_;intro A2 c2 w2 hown2 hg2 hat2));have hps:=SetO.push (p:=(p.1,.slice P p.1.l.length pc)) (hD6.ext (Ext.alloc (Ext.refl _) _)) (hv6.ext (Ext.alloc (Ext.refl _) _)) rfl hown2 hg2;have hE7:Ext wc w2:=yy (Ext.alloc hE6 _) hg2 (zm hD6.out (Ext.alloc (Ext.refl _) _)) (Nat.le_refl _);go_roundw
     case rel=>
      refine⟨k+1,_,A2,c2,by omega,by go_num,?_,?_,?_,hps,hE7⟩
      ·rw[List.length_append];rfl
      ·rw[List.length_append];simp;omega
      ·rw[List.map_append,Hqs.out,Htk.out]
       unfold qH;rw[List.filter_append,List.filter_cons,if_pos (by simpa using⟨h1,h2⟩)];rfl
     case measure=>simp[intOf];omega
  ·have hdec:decide ((k:Int)<ps.length)=false:=by simp;omega
   have hdec':decide (k<ps.length)=false:=by simp;omega
   have hke:k=ps.length:=by omega
   have hq:=Hqs.out;rw[hke,List.take_length]at hq;have Hq:=Lib.hid hq;clear hq;clear hke;go_wp2_with fail;go_ret;exact⟨qs,D,d,rfl,hD.base_ (Nat.zero_le _),by rw[Hq.out,Hps.out],hE1.trans hE⟩
def jm(fr:List Nat)(ss:List St)(t:Nat):Prop:= ∃x∈ss,x.g∈fr∧x.f∉fr∧t∈x.l
def zo2(w:World)(fr:List Nat)(ss:List St)(r:Ending)(w':World):Prop:=
 ∃(o:List Nat) (A:Option Addr) (c n:Nat),r= .returned (.tuple #[.slice A o.length c,.int .i64 n])∧xU w' (.slice A o.length c) o∧Asc o∧(∀t,t∈o↔jm fr ss t)∧n<=100000000∧Ext w w'
theorem zl8(A0 F:Option Addr)(c0 cf:Nat)(ps0:List (St×Value))(fr:List Nat)(w:World)(h:SetO w 0 A0 c0 ps0)(hw:WfS (ps0.map (·.1)))(hF:Rd w F fr.length 1 (yb (yB fr)))(hfl:fr.length<=100000):
 Calls Tryz.prog 118 #[.slice A0 ps0.length c0,.slice F fr.length cf] w (zo2 w fr (ps0.map (·.1))):=by
 have hn:ps0.length<=4096:=by have:=hw.len;simpa using this
 have Hw:=Lib.hid hw;have hFl:(yB fr).length=fr.length:=qw fr;have HFl:=Lib.hid hFl;rw[<-hFl]at hF|-;clear hFl hw;go_enter Tryz.func118,Tryz.ntmps118;go_wp2;go_loopw [6,7,14] (fun s m i wr=> ∃(k n:Nat) (o:List Nat) (D:Option Addr) (d:Nat),k<=ps0.length∧n<=k*16384∧i= .int .i64 k∧m= .int .i64 n∧s= .slice D o.length d∧xU wr (.slice D o.length d) o∧Asc o∧(∀t,t∈o↔jm fr ((ps0.take k).map (·.1)) t)∧Ext w wr) (fun _ _ i _=>ps0.length-(intOf i).toNat);case atStart=>exact⟨0,0,[],none,0,by omega,by omega,rfl,rfl,rfl,zP _ _ _ _,by simp[Asc],by simp[jm],by exact jX⟩
 case round=>
  obtain⟨k,n,o,D,d,hk,hnk,rfl,rfl,rfl,hO,ha,hm,hE⟩:=hrel;have Ha:=Lib.hid ha;have Hm:=Lib.hid hm;clear ha hm;by_cases hlt:k<ps0.length
  ·have hdec:decide ((k:Int)<ps0.length)=true:=by simp;omega
   have hdec':decide (k<ps0.length)=true:=by simp;omega
   have hkI:(k:Int)<ps0.length:=by omega
   obtain⟨p,hp⟩: ∃p,ps0[k]? =some p:=⟨_,List.getElem?_eq_getElem hlt⟩;obtain⟨g,rfl,f0,f1,f2,_,lg⟩:=(h.ext hE).at_ hp;have hv0:=(h.ext hE).each p (List.mem_of_getElem? hp);obtain⟨P,pc,hpv,_,_⟩:=vm hv0;rw[hpv]at f2 hv0;have hmem:p.1∈ps0.map (·.1):=List.mem_map.2 ⟨p,List.mem_of_getElem? hp,rfl⟩;have hll:=Hw.out.slots hmem;have Hpl:=Lib.hid (Hw.out.2 p.1 hmem).2.2.2;have Htk:=Lib.hid (show(ps0.take (k+1)).map (·.1)=(ps0.take k).map (·.1)++ [p.1] by rw[List.take_add_one,hp,List.map_append];rfl)
   have Hin:=Lib.hid (show∀t,jm fr ((ps0.take (k+1)).map (·.1)) t↔jm fr ((ps0.take k).map (·.1)) t∨(p.1.g∈fr∧p.1.f∉fr∧t∈p.1.l)from fun t=>by
    rw[Htk.out];unfold jm;constructor
    ·rintro⟨x,hx,h1⟩
     rcases List.mem_append.1 hx with hx|hx
     ·exact .inl ⟨x,hx,h1⟩
     ·simp only[List.mem_singleton]at hx
      subst hx;exact .inr h1
    ·rintro(⟨x,hx,h1⟩|h1)
     ·exact⟨x,List.mem_append_left _ hx,h1⟩
     ·exact⟨p.1,List.mem_append_right _ (by simp),h1⟩)
   clear hp hpv;go_upto_region 6 with fail;have hEW:=Ext.alloc (Ext.refl wr) (.cells #[.int .i64 p.1.f,.int .i64 p.1.g,.slice P p.1.l.length pc] 158);have kB:Blk (wr.alloc (.cells #[.int .i64 p.1.f,.int .i64 p.1.g,.slice P p.1.l.length pc] 158)) wr.heap.size 158 #[.int .i64 p.1.f,.int .i64 p.1.g,.slice P p.1.l.length pc]:=Blk.new rfl;obtain⟨b5,hb5⟩: ∃b5,wr.heap.size=b5:=⟨_,rfl⟩;have hO5:=hO.ext hEW;have hE5:=hE.trans hEW;have hv5:=hv0.ext hEW;generalize wr.alloc (.cells #[.int .i64 p.1.f,.int .i64 p.1.g,.slice P p.1.l.length pc] 158)=W at*;rw[hb5]at kB|-;clear hb5 hEW hO hE hv0;have cB:=kB.cell;have lB:=kB.lt;by_cases h1:p.1.g∈fr
   ·have d1:decide ((p.1.g:Int)∈yB fr)=true:=by simpa using qy.2 h1
    by_cases h2:p.1.f∈fr
    ·have d2:decide ((p.1.f:Int)∈yB fr)=true:=by simpa using qy.2 h2
     go_wp2_with(first|(go_at_call 124;refine(zju _ _ (yB fr) _ _ _ (hF.ext jX) (by rw[qw];omega) rfl).mono ?_;rintro e w1 ⟨rfl,hE2⟩;replace kB:=kB.ext hE2;have cB:=kB.cell;have lB:=kB.lt));go_roundw;case rel=>exact⟨k+1,n,o,D,d,by omega,by omega,by go_num,rfl,rfl,hO5.ext jX,Ha.out,fun t=>by rw[Hm.out,Hin.out];exact⟨.inl,fun h=>h.elim id (fun h=>absurd h2 h.2.1)⟩,by exact jX⟩
     case measure=>simp[intOf];omega
    ·have d2:decide ((p.1.f:Int)∈yB fr)=false:=by simpa using fun h=>h2 (qy.1 h)
     go_upto_region 8 with(first|(go_at_call 124;refine(zju _ _ (yB fr) _ _ _ (hF.ext jX) (by rw[qw];omega) rfl).mono ?_;rintro e w1 ⟨rfl,hE2⟩;replace kB:=kB.ext hE2;have cB:=kB.cell;have lB:=kB.lt));have hO6:=hO5.ext (show Ext W w1 by exact jX);have hv6:=hv5.ext (show Ext W w1 by exact jX);have hE6:Ext w w1:=by exact jX
     obtain⟨wt,hwt⟩: ∃wt,wt=w1:=⟨_,rfl⟩;subst hwt;obtain⟨q,hq⟩: ∃q,p.1.l.length=q:=⟨_,rfl⟩;have Hq:=Lib.hid hq;have hvR:Rd wt P p.1.l.length 1 (yb (yB p.1.l)):=Rd.of_own hv6;rw[hq]at hll hvR kB cB|-;clear hq hO5 hE5 hv6;go_wp2_with fail;go_loopw [6,37] (fun s i wr=> ∃(j:Nat) (oj:List Nat) (D:Option Addr) (d:Nat),j<=q∧i= .int .i64 j∧s= .slice D oj.length d∧xU wr (.slice D oj.length d) oj∧Asc oj∧(∀t,t∈oj↔t∈o∨t∈p.1.l.take j)∧Ext wt wr) (fun _ i _=>q-(intOf i).toNat);case atStart=>exact⟨0,o,D,d,by omega,rfl,rfl,hO6,Ha.out,by simp,by exact jX⟩
     case round=>
      obtain⟨j,oj,D,d,hj,rfl,rfl,hOj,haj,hmj,hEj⟩:=hrel;have Haj:=Lib.hid haj;have Hmj:=Lib.hid hmj
      have hlj:oj.length<=100000:=Nat.le_trans (vT 16384 oj (vE haj) (fun t ht=>by
       rcases(hmj t).1 ht with ht|ht
       ·obtain⟨x,hx,_,_,hxt⟩:=(Hm.out t).1 ht
        obtain⟨y,hy,rfl⟩:=List.mem_map.1 hx;exact(Hw.out.2 y.1 (List.mem_map.2 ⟨y,List.mem_of_mem_take hy,rfl⟩)).2.2.2 t hxt
       ·exact Hpl.out t (List.mem_of_mem_take ht))) (by omega)
      clear haj hmj;by_cases hjl:j<q
      ·have hjec:decide ((j:Int)<q)=true:=by simp;omega
       have hjec':decide (j<q)=true:=by simp;omega
       have hjI:(j:Int)<q:=by omega
       obtain⟨z,hz⟩: ∃z,p.1.l[j]? =some z:=⟨_,List.getElem?_eq_getElem (by rw[Hq.out];exact hjl)⟩;obtain⟨bz,oz,he,z0⟩:=vn (hvR.ext hEj) (jM hz);subst he;have lz:=zh z0;have Hz:=Lib.hid hz;clear hz;go_wp2_with(first|(go_at_call 115;refine(ze1 z _ _ oj _ hOj Haj.out hlj).mono ?_;rintro e w1 ⟨o2,A2,c2,rfl,hI2,ha2,hm2,hE4⟩));go_roundw
       case rel=>
        refine⟨j+1,o2,A2,c2,by omega,by go_num,rfl,hI2,ha2,fun t=> ?_,by exact jX⟩;rw[hm2,Hmj.out,List.take_add_one,Hz.out,List.mem_append];simp only[Option.toList,List.mem_singleton];constructor
        ·rintro((h|h)|h)
         ·exact .inl h
         ·exact .inr (.inl h)
         ·exact .inr (.inr h)
        ·rintro(h|h|h)
         ·exact .inl (.inl h)
         ·exact .inl (.inr h)
         ·exact .inr h
       case measure=>simp[intOf];omega
      ·have hjec:decide ((j:Int)<q)=false:=by simp;omega
       have hjec':decide (j<q)=false:=by simp;omega
       have hme:=Lib.hid (show∀t,t∈oj↔t∈o∨t∈p.1.l from fun t=>by
        rw[Hmj.out,List.take_of_length_le (by rw[Hq.out];omega)])
       go_wp2_with fail;go_roundw
       case rel=>
        refine⟨k+1,n+q,oj,D,d,by omega,by omega,by go_num,rfl,rfl,hOj,Haj.out,fun t=> ?_,by exact jX⟩;rw[hme.out,Hin.out,Hm.out];constructor
        ·rintro(h|h)
         ·exact .inl h
         ·exact .inr ⟨h1,h2,h⟩
        ·rintro(h|h)
         ·exact .inl h
         ·exact .inr h.2.2
       case measure=>simp[intOf];omega
   ·have d1:decide ((p.1.g:Int)∈yB fr)=false:=by simpa using fun h=>h1 (qy.1 h)
    go_wp2_with(first|(go_at_call 124;refine(zju _ _ (yB fr) _ _ _ (hF.ext jX) (by rw[qw];omega) rfl).mono ?_;rintro e w1 ⟨rfl,hE2⟩;replace kB:=kB.ext hE2;have cB:=kB.cell;have lB:=kB.lt));go_roundw;case rel=>exact⟨k+1,n,o,D,d,by omega,by omega,by go_num,rfl,rfl,hO5.ext jX,Ha.out,fun t=>by rw[Hm.out,Hin.out];exact⟨.inl,fun h=>h.elim id (fun h=>absurd h.1 h1)⟩,by exact jX⟩
    case measure=>simp[intOf];omega
  ·have hdec:decide ((k:Int)<ps0.length)=false:=by simp;omega
   have hdec':decide (k<ps0.length)=false:=by simp;omega
   have hke:k=ps0.length:=by omega
   have Hm2:=Lib.hid (show∀t,t∈o↔jm fr (ps0.map (·.1)) t from fun t=>by rw[Hm.out,hke,List.take_length]);have hn2:n<=100000000:=by omega
   clear hke hnk;go_wp2_with fail;refine bodyPost_ret (v:= .tuple #[.slice D o.length d,.int .i64 n]) (by simp[results,Tryz.results118,go_sem]) rfl ?_;exact⟨o,D,d,n,rfl,hO,Ha.out,Hm2.out,hn2,hE⟩
def frB(fs:List Fr)(l:List Inc)(f:Nat):Bool:=(fs[f]?).any fun F=>l.any fun i=>decide (F.o=i.q)
def qn(fs:List Fr)(l:List Inc)(k:Nat):List Nat:=(List.range k).filter (frB fs l)
theorem zl9{fs:List Fr}{l:List Inc}{k:Nat}(h:frB fs l k=true):qn fs l (k+1)=qn fs l k++ [k]:=by
 unfold qn;rw[List.range_succ,List.filter_append,List.filter_cons,if_pos h];rfl
theorem zo3{fs:List Fr}{l:List Inc}{k:Nat}(h:frB fs l k=false):qn fs l (k+1)=qn fs l k:=by
 unfold qn;rw[List.range_succ,List.filter_append,List.filter_cons,if_neg (by simp[h])];simp
theorem zbp(fs:List Fr)(l:List Inc)(k:Nat):(qn fs l k).length<=k:=Nat.le_trans (List.length_filter_le _ _) (by simp)
theorem zbq{fs:List Fr}{l:List Inc}{f:Nat}:f∈qn fs l fs.length↔frB fs l f=true:=by
 unfold qn;rw[List.mem_filter,List.mem_range];refine⟨fun h=>h.2,fun h=>⟨?_,h⟩⟩;unfold frB at h;rcases Nat.lt_or_ge f fs.length with hh|hh
 ·exact hh
 ·rw[List.getElem?_eq_none hh]at h;cases h
theorem zau(A Bf D0:Option Addr)(a b c0:Nat)(S:Sp)(l:List Inc)(w:World)(h:SRd w S A Bf)(h4:S.fs.length<=64)(hl:Rd w D0 l.length 5 (zQ l))(hn:l.length<=1000):
 Calls Tryz.prog 119 #[spV S A a Bf b,.slice D0 l.length c0] w (j4 w (qn S.fs l S.fs.length)):=by
 unfold spV;have hF:=h.F;go_enter Tryz.func119,Tryz.ntmps119;go_wp2;have k0:Blk (w.alloc (.cells #[.int .i64 S.sh,.slice A S.ws.length a,.slice Bf S.fs.length b] 29)) w.heap.size 29 #[.int .i64 S.sh,.slice A S.ws.length a,.slice Bf S.fs.length b]:=Blk.new rfl;go_loopw [5,13] (fun s i wr=> ∃(k:Nat) (D:Option Addr) (d:Nat),k<=S.fs.length∧i= .int .i64 k∧s= .slice D (qn S.fs l k).length d∧wr.ownsRow (w.heap.size+1) 3 1 (.slice D (qn S.fs l k).length d) (qn S.fs l k).length (yb (yB (qn S.fs l k)))∧Ext w wr∧Blk wr w.heap.size 29 #[.int .i64 S.sh,.slice A S.ws.length a,.slice Bf S.fs.length b]) (fun _ i _=>S.fs.length-(intOf i).toNat);case atStart=>exact⟨0,none,0,by omega,rfl,rfl,zP _ _ _ _,by exact jX,k0⟩
 case round=>
  clear k0;obtain⟨k,D,d,hk,rfl,rfl,hown,hE,k0⟩:=hrel;have hsz:=hE.size_le;have cB:=k0.cell;have lB:=k0.lt;have hlk:=zbp S.fs l k;by_cases hlt:k<S.fs.length
  ·have hdec:decide ((k:Int)<S.fs.length)=true:=by simp;omega
   have hdec':decide (k<S.fs.length)=true:=by simp;omega
   have hkI:(k:Int)<S.fs.length:=by omega
   obtain⟨F,hF0⟩: ∃F,S.fs[k]? =some F:=⟨_,List.getElem?_eq_getElem hlt⟩;obtain⟨bF,oF,rfl,f0,f1,f2⟩:=jl (hF.ext hE) hF0;have lF:=zh f0;have Hb:=Lib.hid (show frB S.fs l k=l.any fun i=>decide (F.o=i.q) by unfold frB;rw[hF0];rfl);clear hF0;go_upto_region 5 with fail;have hEW:=Ext.alloc (Ext.refl wr) (.cells #[.int .i64 F.o,.int .i64 F.s,.int .i64 F.n] 118);have kF:Blk (wr.alloc (.cells #[.int .i64 F.o,.int .i64 F.s,.int .i64 F.n] 118)) wr.heap.size 118 #[.int .i64 F.o,.int .i64 F.s,.int .i64 F.n]:=Blk.new rfl;obtain⟨b5,hb5⟩: ∃b5,wr.heap.size=b5:=⟨_,rfl⟩;replace hown:=zm hown hEW;replace hE:=hE.trans hEW;replace k0:=k0.ext hEW;generalize wr.alloc (.cells #[.int .i64 F.o,.int .i64 F.s,.int .i64 F.n] 118)=W at*;rw[hb5]at kF|-;clear hb5 hEW f0 f1 f2 cB lB lF;go_wp2_with fail;go_loopw [5,20] (fun s i wq=> ∃j:Nat,j<=l.length∧i= .int .i64 j∧s= .slice D (qn S.fs l k).length d∧(∀x∈l.take j,F.o≠x.q)∧Ext W wq) (fun _ i _=>l.length-(intOf i).toNat);case atStart=>exact⟨0,by omega,rfl,rfl,by simp,by exact jX⟩
   case round=>
    obtain⟨j,hj,rfl,rfl,hno,hEq⟩:=hrel;have Hno:=Lib.hid hno;clear hno;have kFq:=kF.ext hEq;have cF:=kFq.cell;have lF:=kFq.lt;by_cases hjl:j<l.length
    ·have hjec:decide ((j:Int)<l.length)=true:=by simp;omega
     have hjec':decide (j<l.length)=true:=by simp;omega
     have hjI:(j:Int)<l.length:=by omega
     obtain⟨i,hi⟩: ∃i,l[j]? =some i:=⟨_,List.getElem?_eq_getElem hjl⟩;obtain⟨bD,oD,he,c0',c1,c2,c3,c4⟩:=xo (hl.ext (hE.trans hEq)) hi;subst he;have ld:=zh c0';have Hi:=Lib.hid hi;clear hi;by_cases he:F.o=i.q
     ·have q1:(F.o==i.q)=true:=by simpa using he
      have q2:decide (F.o=i.q)=true:=by simpa using he
      have Hy:=Lib.hid (zl9 (Hb.out.trans (List.any_eq_true.2 ⟨i,List.mem_of_getElem? Hi.out,q2⟩)));clear he;have hsq:=(hE.trans hEq).size_le;replace hEq:=hEq.trans (Ext.alloc (Ext.refl wr) (.cells #[.int .i64 i.q,.int .i64 i.b,.int .i64 i.f,.int .i64 i.l,.int .i64 i.w] 144));go_wp2_with(first|(at_builtin;refine zJ rfl Tryz.elI _ _ rfl (w.heap.size+1) _ _ _ rfl (z8 (zm hown hEq) _) _ 1 1 _ rfl (zih _ _ _ _) (by simp[Value.oneCell']) (by omega) (by omega) (by(first|omega|(simp;done)|(simp;omega))) ?_;intro A2 a2 w2 hown2 hg2 hat2;have hE2:Ext w w2:=yy (Ext.alloc (hE.trans hEq) _) hg2 (z8 (zm hown hEq) _) (by omega);have k2:=Blk.but ((k0.ext hEq).alloc _) (zL hg2) (zii hown (by omega))));go_roundw;case rel=>exact⟨k+1,A2,a2,by omega,by go_num,by rw[Hy.out];simp,by rw[Hy.out,<-qg];simpa using hown2,hE2,k2⟩
      case measure=>simp[intOf];omega
     ·have q1:(F.o==i.q)=false:=by simpa using he
      have q2:decide (F.o=i.q)=false:=by simpa using he
      have He:=Lib.hid he;clear he;go_wp2_with fail;go_roundw
      case rel=>exact⟨j+1,by omega,by go_num,rfl,fun x hx=>by
       rw[List.take_add_one,Hi.out]at hx;rcases List.mem_append.1 hx with hx|hx
       ·exact Hno.out x hx
       ·simp only[Option.toList,List.mem_singleton]at hx
        subst hx;exact He.out,by exact jX⟩
      case measure=>simp[intOf];omega
    ·have hjec:decide ((j:Int)<l.length)=false:=by simp;omega
     have hjec':decide (j<l.length)=false:=by simp;omega
     have hje:j=l.length:=by omega
     have Hn:=Lib.hid (zo3 (Hb.out.trans (show(l.any fun i=>decide (F.o=i.q))=false from by
      rw[List.any_eq_false];intro x hx;have:=Hno.out x (by rw[hje,List.take_length];exact hx);simpa using this)))
     clear hje;go_wp2_with fail;go_roundw;case rel=>exact⟨k+1,D,d,by omega,by go_num,by rw[Hn.out],by rw[Hn.out];exact zm hown hEq,hE.trans hEq,k0.ext hEq⟩
     case measure=>simp[intOf];omega
  ·have hdec:decide ((k:Int)<S.fs.length)=false:=by simp;omega
   have hdec':decide (k<S.fs.length)=false:=by simp;omega
   have Hke:=Lib.hid (show k=S.fs.length by omega);go_wp2_with fail;go_ret;rw[<-Hke.out];exact⟨D,d,rfl,zu hown (by omega),hE⟩
def yT(S:Sp)(l:List Inc)(v:Int):Bool:=decide (0<v)&&frB S.fs l ((v-1).toNat/2^S.sh)
theorem q7(A Bf D:Option Addr)(a b c:Nat)(v:Int)(S:Sp)(L:List Ch)(l:List Inc)(w:World)(h:SRd w S A Bf)(hl:Rd w D l.length 5 (zQ l))(hS:Chs S L)(hv:v=0∨∃t:Nat,v=(t:Int)+1∧t<S.ws.length)(hn:l.length<=1000)(bb:Bool)(hbb:yT S l v=bb):
 Calls Tryz.prog 117 #[spV S A a Bf b,.slice D l.length c,.int .u64 v] w fun r w'=>r= .returned (.bool bb)∧Ext w w':=by
 subst hbb;rcases hv with rfl|⟨t,rfl,ht⟩
 ·have:yT S l 0=false:=by simp[yT]
  rw[this];exact zgz A Bf D a b l.length c S w h
 ·have hw1:S.ws.length<=16384:=by
   have h1:=hS.wl;have h2:=(yG hS.sh).2;have h3:S.fs.length*2^S.sh<=64*256:=Nat.mul_le_mul hS.n2.2 h2;omega
  have hb1:=(yG hS.sh).1
  have hg:t/2^S.sh<S.fs.length:=by
   rw[Nat.div_lt_iff_lt_mul (by omega),<-hS.wl];exact ht
  obtain⟨F,hF⟩: ∃F,S.fs[t/2^S.sh]? =some F:=⟨_,List.getElem?_eq_getElem hg⟩
  have hb:yT S l ((t:Int)+1)=l.any fun i=>decide (F.o=i.q):=by
   unfold yT frB;rw[show((t:Int)+1-1).toNat=t by omega,hF];have:decide ((0:Int)<(t:Int)+1)=true:=by(first|omega|(simp;done)|(simp;omega))
   rw[this];rfl
  rw[hb];exact zg0 A Bf D a b c t (2^S.sh) S l F w h hl rfl hS.sh.2 ht hw1 hF hn
def qe(us:List Bool):List Value:=us.map .bool
theorem j7{w:World}{A:Option Addr}{n:Nat}{us:List Bool}(h:Rd w A n 1 (qe us)){k:Nat}{u:Bool}(hk:us[k]? =some u): ∃b o,A=some ⟨b,o,none⟩∧w.cell? ⟨b,o+k,none⟩=some (.bool u):=by
 have hn:us.length=n:=by have:=h.1;simpa[qe]using this
 obtain⟨b,o,hA,hc⟩:=h.2 (by have:=(List.getElem?_eq_some_iff.1 hk).1;omega);exact⟨b,o,hA,hc k _ (by simp[qe,hk])⟩
def xp(us:List Bool)(k:Nat):List Nat:=((List.range k).filter fun i=>us.getD i false).map (· +1)
theorem ze4{us:List Bool}{k:Nat}(h:us[k]? =some true):xp us (k+1)=xp us k++ [k+1]:=by
 unfold xp;rw[List.range_succ,List.filter_append,List.filter_cons,if_pos (by simp[List.getD_eq_getElem?_getD,h])];simp
theorem zo4{us:List Bool}{k:Nat}(h:us[k]? =some false):xp us (k+1)=xp us k:=by
 unfold xp;rw[List.range_succ,List.filter_append,List.filter_cons,if_neg (by simp[List.getD_eq_getElem?_getD,h])];simp
theorem kh(us:List Bool)(k:Nat):(xp us k).length<=k:=by
 unfold xp;rw[List.length_map];exact Nat.le_trans (List.length_filter_le _ _) (by simp)
theorem ze5{us:List Bool}{h:Nat}:h∈xp us us.length↔∃i,h=i+1∧us[i]? =some true:=by
 unfold xp;simp only[List.mem_map,List.mem_filter,List.mem_range,List.getD_eq_getElem?_getD];constructor
 ·rintro⟨i,⟨hi,hu⟩,rfl⟩
  refine⟨i,rfl,?_⟩;rw[List.getElem?_eq_getElem hi]at hu|-;simpa using hu
 ·rintro⟨i,rfl,hu⟩
  exact⟨i,⟨(List.getElem?_eq_some_iff.1 hu).1,by rw[hu];rfl⟩,rfl⟩
theorem za7(A R:Option Addr)(c n d:Nat)(us:List Bool)(w:World)(h:Rd w A us.length 1 (qe us))(hn:us.length<=1000):
 Calls Tryz.prog 72 #[.agg #[.slice A us.length c,.slice R n d]] w (j4 w (xp us us.length)):=by
 go_enter Tryz.func72,Tryz.ntmps72;go_wp2;have k0:Blk (w.alloc (.cells #[.slice A us.length c,.slice R n d] 34)) w.heap.size 34 #[.slice A us.length c,.slice R n d]:=Blk.new rfl;go_loopw [3,9] (fun s i wr=> ∃(k:Nat) (D:Option Addr) (d':Nat),k<=us.length∧i= .int .i64 k∧s= .slice D (xp us k).length d'∧wr.ownsRow (w.heap.size+1) 3 1 (.slice D (xp us k).length d') (xp us k).length (yb (yB (xp us k)))∧Ext w wr∧Blk wr w.heap.size 34 #[.slice A us.length c,.slice R n d]) (fun _ i _=>us.length-(intOf i).toNat);case atStart=>exact⟨0,none,0,by omega,rfl,rfl,zP _ _ _ _,by exact jX,k0⟩
 case round=>
  clear k0;obtain⟨k,D,d',hk,rfl,rfl,hown,hE,k0⟩:=hrel;have hsz:=hE.size_le;have hlk:=kh us k;by_cases hlt:k<us.length
  ·have hdec:decide ((k:Int)<us.length)=true:=by simp;omega
   have hdec':decide (k<us.length)=true:=by simp;omega
   have hkI:(k:Int)<us.length:=by omega
   obtain⟨u,hu⟩: ∃u,us[k]? =some u:=⟨_,List.getElem?_eq_getElem hlt⟩;obtain⟨bU,oU,rfl,u0⟩:=j7 (h.ext hE) hu;have lU:=zh u0;cases u with
   |true=>
    have Hy:=Lib.hid (ze4 hu);clear hu;go_wp2_with(first|(at_builtin;refine zJ rfl Tryz.elI _ _ rfl (w.heap.size+1) _ _ _ rfl (z8 hown _) _ 1 1 _ rfl (xm _ _ _) (by simp[Value.oneCell']) (by omega) (by omega) (by(first|omega|(simp;done)|(simp;omega))) ?_;intro A2 a2 w2 hown2 hg2 hat2;have hE2:Ext w w2:=yy (Ext.alloc hE _) hg2 (z8 hown _) (by omega);have k2:=Blk.but (k0.alloc _) (zL hg2) (zii hown (by omega))));go_roundw;case rel=>exact⟨k+1,A2,a2,by omega,by go_num,by rw[Hy.out];simp,by rw[Hy.out,<-qg];simpa using hown2,hE2,k2⟩
    case measure=>simp[intOf];omega
   |false=>
    have Hn:=Lib.hid (zo4 hu);clear hu;go_wp2_with fail;go_roundw;case rel=>exact⟨k+1,D,d',by omega,by go_num,by rw[Hn.out],by rw[Hn.out];exact hown,hE,k0⟩
    case measure=>simp[intOf];omega
  ·have hdec:decide ((k:Int)<us.length)=false:=by simp;omega
   have hdec':decide (k<us.length)=false:=by simp;omega
   have Hke:=Lib.hid (show k=us.length by omega);go_wp2_with fail;go_ret;rw[<-Hke.out];exact⟨D,d',rfl,zu hown (by omega),hE⟩
def vF(f:Nat->Bool)(l:List Nat)(k:Nat):List Nat:=(l.take k).filter f
theorem ze6{f:Nat->Bool}{l:List Nat}{k x:Nat}(hk:l[k]? =some x)(h:f x=true):vF f l (k+1)=vF f l k++ [x]:=by
 unfold vF;rw[List.take_add_one,hk,List.filter_append];simp[List.filter_cons,h]
theorem zir{f:Nat->Bool}{l:List Nat}{k x:Nat}(hk:l[k]? =some x)(h:f x=false):vF f l (k+1)=vF f l k:=by
 unfold vF;rw[List.take_add_one,hk,List.filter_append];simp[List.filter_cons,h]
theorem ze7(f:Nat->Bool)(l:List Nat)(k:Nat):(vF f l k).length<=k:=Nat.le_trans (List.length_filter_le _ _) (by simp;omega)
theorem ze8(f:Nat->Bool)(l:List Nat):vF f l l.length=l.filter f:=by
 unfold vF;rw[List.take_length]
def xW(S:Sp)(us:List Bool)(rs:List Int)(l:List Inc):List Nat:=(xp us us.length).filter fun h=>yT S l (rs.getD (h-1) 0)
theorem ze9(A Bf U R D0:Option Addr)(a b cu cr c0:Nat)(S:Sp)(L:List Ch)(us:List Bool)(rs:List Int)(l:List Inc)(w:World)(h:SRd w S A Bf)(hS:Chs S L)(hu:Rd w U us.length 1 (qe us))(hr:Rd w R rs.length 1 (words rs))(hl:Rd w D0 l.length 5 (zQ l))(hn:l.length<=1000)(hul:us.length<=1000)(hlen:rs.length=us.length)
 (hv: ∀(k:Nat) (v:Int),rs[k]? =some v->v=0∨∃t:Nat,v=(t:Int)+1∧t<S.ws.length):
 Calls Tryz.prog 108 #[spV S A a Bf b,.agg #[.slice U us.length cu,.slice R rs.length cr],.slice D0 l.length c0] w (j4 w (xW S us rs l)):=by
 unfold spV;have HS:=Lib.hid hS;have HV:=Lib.hid hv;have Hlen:=Lib.hid hlen;clear hS hv hlen;go_enter Tryz.func108,Tryz.ntmps108;go_upto_region 2 with fail;have kS:Blk ((w.alloc (.cells #[.int .i64 S.sh,.slice A S.ws.length a,.slice Bf S.fs.length b] 29)).alloc (.cells #[.slice U us.length cu,.slice R rs.length cr] 34)) w.heap.size 29 #[.int .i64 S.sh,.slice A S.ws.length a,.slice Bf S.fs.length b]:=Blk.alloc (Blk.new rfl) _;have kR:Blk ((w.alloc (.cells #[.int .i64 S.sh,.slice A S.ws.length a,.slice Bf S.fs.length b] 29)).alloc (.cells #[.slice U us.length cu,.slice R rs.length cr] 34)) (w.heap.size+1) 34 #[.slice U us.length cu,.slice R rs.length cr]:=Blk.new (by simp);have hE0:Ext w ((w.alloc (.cells #[.int .i64 S.sh,.slice A S.ws.length a,.slice Bf S.fs.length b] 29)).alloc (.cells #[.slice U us.length cu,.slice R rs.length cr] 34)):=by exact jX
 generalize(w.alloc (.cells #[.int .i64 S.sh,.slice A S.ws.length a,.slice Bf S.fs.length b] 29)).alloc (.cells #[.slice U us.length cu,.slice R rs.length cr] 34)=W at*;have cS:=kS.cell;have lS:=kS.lt;have cR:=kR.cell;have lR:=kR.lt;go_wp2_with(first|(go_at_call 72;refine(za7 _ _ _ _ _ us _ (hu.ext jX) (by omega)).mono ?_;rintro e w1 ⟨E1,e1,rfl,hE1o,hE1⟩;have kS1:=kS.ext hE1;have kR1:=kR.ext hE1;have hL1:=Rd.of_own hE1o;clear hE1o));have hE01:=hE0.trans hE1;obtain⟨wc,hwc⟩: ∃wc,wc=w1:=⟨_,rfl⟩;subst hwc;clear cS lS cR lR kS kR hE0 hE1;have hlv:=kh us us.length;have hlw:=(show w.heap.size+2<=wc.heap.size by have:=kR1.lt;omega);go_loopw [7,13] (fun s i wr=> ∃(k:Nat) (D:Option Addr) (d':Nat),k<=(xp us us.length).length∧i= .int .i64 k∧s= .slice D (vF (fun h=>yT S l (rs.getD (h-1) 0)) (xp us us.length) k).length d'∧wr.ownsRow wc.heap.size 3 1 (.slice D (vF (fun h=>yT S l (rs.getD (h-1) 0)) (xp us us.length) k).length d') (vF (fun h=>yT S l (rs.getD (h-1) 0)) (xp us us.length) k).length (yb (yB (vF (fun h=>yT S l (rs.getD (h-1) 0)) (xp us us.length) k)))∧Ext wc wr) (fun _ i _=>(xp us us.length).length-(intOf i).toNat);case atStart=>exact⟨0,none,0,by omega,rfl,rfl,zP _ _ _ _,by exact jX⟩
 case round=>
  obtain⟨k,D,d',hk,rfl,rfl,hown,hEr⟩:=hrel;have hEw:=hE01.trans hEr;have hpl:=ze7 (fun h=>yT S l (rs.getD (h-1) 0)) (xp us us.length) k;by_cases hlt:k<(xp us us.length).length
  ·have hdec:decide ((k:Int)<(xp us us.length).length)=true:=by simp;omega
   have hdec':decide (k<(xp us us.length).length)=true:=by simp;omega
   have hkI:(k:Int)<(xp us us.length).length:=by omega
   obtain⟨z,hz⟩: ∃z,(xp us us.length)[k]? =some z:=⟨_,List.getElem?_eq_getElem hlt⟩;obtain⟨i,hzi,hui⟩:=ze5.1 (List.mem_of_getElem? hz);have hil:i<rs.length:=by rw[Hlen.out];exact(List.getElem?_eq_some_iff.1 hui).1
   obtain⟨v,hvi⟩: ∃v,rs[i]? =some v:=⟨_,List.getElem?_eq_getElem hil⟩;have hil2:i<=1000:=by have:=Hlen.out;omega
   have Hv:=Lib.hid (HV.out i v hvi);have Hw1:=Lib.hid (show yT S l (rs.getD (z-1) 0)=yT S l v by rw[hzi,Nat.add_sub_cancel,List.getD_eq_getElem?_getD,hvi];rfl);obtain⟨bL,oL,rfl,z0⟩:=vn (hL1.ext hEr) (jM hz);obtain⟨bR,oR,rfl,r0⟩:=xw (hr.ext hEw) hvi;have lL:=zh z0;have lW:=zh r0;have kS2:=kS1.ext hEr;have kR2:=kR1.ext hEr;have cS:=kS2.cell;have lS:=kS2.lt;have cR:=kR2.cell;have lR:=kR2.lt;have hzI:(z:Int)=(i:Int)+1:=by omega
   rw[hzI]at z0;have hi1:(i:Int)+1-1=(i:Int):=by omega
   have hiI:(i:Int)<rs.length:=by omega
   have Hz:=Lib.hid hz;have Hzi:=Lib.hid hzi;clear hz hzi hui hvi hzI;by_cases hb:yT S l v=true
   ·have Hy:=Lib.hid (ze6 (f:=fun h=>yT S l (rs.getD (h-1) 0)) Hz.out (Hw1.out.trans hb))
    have Hbb:=Lib.hid hb;clear hb;go_wp2_with fail;refine jRE [(true,0),(true,1),(true,2),(true,3),(true,4),(true,5),(true,6),(true,7),(false,8)] Tryz.mixed fun hx=> ?_
    repeat(first
     |refine jLE hx ?_
     |refine jLS ?_
     |(refine yo hx (fun K hK=> ?_);go_simp;go_at_call 117;refine(q7 _ _ _ _ _ _ _ S L l _ (h.ext jX) (hl.ext jX) HS.out Hv.out hn _ Hbb.out).mono ?_;rintro e w1 ⟨rfl,hE2⟩;refine hK _ _ (hE2) ?_;clear hK hx;intro hx;refine jq ?_)
     |(refine yo hx (fun K hK=> ?_);go_simp;(first|refine hK _ _ jX ?_|refine hK undef _ jX ?_);clear hK hx;intro hx;try refine jq ?_))
    refine zH ?_;have hE5:Ext wr w1:=by exact jX
    have hsz5:=(hEr.trans hE5).size_le;go_wp2_with(first|(at_builtin;refine zJ rfl Tryz.elI _ _ rfl wc.heap.size _ _ _ rfl (z8 (zm hown hE5) _) _ 1 1 _ rfl (xm _ _ _) (by simp[Value.oneCell']) (by omega) (by omega) (by(first|omega|(simp;done)|(simp;omega))) ?_;intro A2 a2 w2 hown2 hg2 hat2;have hE6:Ext wc w2:=yy (Ext.alloc (hEr.trans hE5) _) hg2 (z8 (zm hown hE5) _) (Nat.le_refl _)));go_roundw
    case rel=>exact⟨k+1,A2,a2,by omega,by go_num,by rw[Hy.out];simp,by
     rw[Hy.out,<-qg,Hzi.out];simpa using hown2,hE6⟩
    case measure=>simp[intOf];omega
   ·have hbf:yT S l v=false:=by simpa using hb
    have Hn:=Lib.hid (zir (f:=fun h=>yT S l (rs.getD (h-1) 0)) Hz.out (Hw1.out.trans hbf));have Hbb:=Lib.hid hbf;clear hb hbf;go_wp2_with fail;refine jRE [(true,0),(true,1),(true,2),(true,3),(true,4),(true,5),(true,6),(true,7),(false,8)] Tryz.mixed fun hx=> ?_
    repeat(first
     |refine jLE hx ?_
     |refine jLS ?_
     |(refine yo hx (fun K hK=> ?_);go_simp;go_at_call 117;refine(q7 _ _ _ _ _ _ _ S L l _ (h.ext jX) (hl.ext jX) HS.out Hv.out hn _ Hbb.out).mono ?_;rintro e w1 ⟨rfl,hE2⟩;refine hK _ _ (hE2) ?_;clear hK hx;intro hx;refine jq ?_)
     |(refine yo hx (fun K hK=> ?_);go_simp;(first|refine hK _ _ jX ?_|refine hK undef _ jX ?_);clear hK hx;intro hx;try refine jq ?_))
    refine zH ?_;have hE5:Ext wr w1:=by exact jX
    go_wp2_with fail;go_roundw;case rel=>exact⟨k+1,D,d',by omega,by go_num,by rw[Hn.out],by rw[Hn.out];exact zm hown hE5,hEr.trans hE5⟩
    case measure=>simp[intOf];omega
  ·have hdec:decide ((k:Int)<(xp us us.length).length)=false:=by simp;omega
   have hdec':decide (k<(xp us us.length).length)=false:=by simp;omega
   have Hke:=Lib.hid (show vF (fun h=>yT S l (rs.getD (h-1) 0)) (xp us us.length) k=xW S us rs l by
    rw[show k=(xp us us.length).length by omega,ze8];rfl)
   go_wp2_with fail;go_ret;rw[<-Hke.out];exact⟨D,d',rfl,zu hown (by omega),hEw⟩
end Go.Proofs.YtopcdfbplknmlaaGreat
