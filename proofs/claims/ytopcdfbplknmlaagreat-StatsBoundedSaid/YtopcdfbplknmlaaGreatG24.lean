/- The walk of the choice of an operation. Conditions: the ranges that each theorem states. -/
import Derived.Test.YtopcdfbplknmlaaGreatL
import Derived.Test.YtopcdfbplknmlaaGreatG23
set_option linter.all false
set_option maxHeartbeats 4000000
set_option maxRecDepth 100000
namespace Go.Proofs.YtopcdfbplknmlaaGreat.Mo
open Go.RowKit Go.Draw
def qG(us:List Bool)(k:Nat):List Int:=(xK us k).map fun i:Nat=>(i:Int)+1
theorem zh0(us:List Bool)(k:Nat):(qG us k).length<=k:=by
 have:=zcg us k;simpa[qG]using this
theorem zh1{us:List Bool}{k:Nat}(h:us[k]? =some true):qG us (k+1)=qG us k++ [(k:Int)+1]:=by
 unfold qG;rw[zcf h];simp
theorem zk1{us:List Bool}{k:Nat}(h:us[k]? =some false):qG us (k+1)=qG us k:=by
 unfold qG;rw[zdo h]
def zck:List Int:= [1,1,1,1,2,2,3,3,3,3,4,5,6,7,7,7,8,9,10,0]
theorem zn0(i:Nat)(h:i<20): ∃z:Int,(yb zck).toArray[i]? =some (.int .i64 z):=by
 have hl:i<zck.length:=h;refine⟨zck[i],?_⟩;rw[List.getElem?_toArray];exact xq (List.getElem?_eq_getElem hl)
theorem zh2(w:World)(i:Nat):(w.alloc (.cells (yb zck).toArray 3)).cell? ⟨w.heap.size,i,none⟩=(yb zck).toArray[i]? :=(Blk.new (w:=w) (t:=3) rfl).cell i
def zje:List Value:= [.int .i64 3,.int .i64 3,.int .i64 8,.int .i64 17]
theorem zcl(i:Nat)(h:i<4): ∃z:Int,zje.toArray[i]? =some (.int .i64 z)∧1<=z∧z<=17:=by
 match i,h with
 |0,_=>exact⟨3,rfl,by omega,by omega⟩
 |1,_=>exact⟨3,rfl,by omega,by omega⟩
 |2,_=>exact⟨8,rfl,by omega,by omega⟩
 |3,_=>exact⟨17,rfl,by omega,by omega⟩
theorem jU{S:List Nat}{w:World}{cs:Array Value}{t:TypeId}(_:But S w (w.alloc (.cells cs t))):Blk (w.alloc (.cells cs t)) w.heap.size t cs:=Blk.new rfl
def zsa(w:World)(d:Nat)(r:Ending)(w':World):Prop:= ∃c a b e:Int,r= .returned (.agg #[.int .i64 c,.int .i64 a,.int .i64 b,.int .i64 e])∧(c=1->0<=a∧a<=15∧0<=b∧b<=32)∧Dk w' d∧But [d] w w'
structure LpSt(w:World)(d:Nat)(gc:Array Value)(B:Option Addr)(m c:Nat)(us:List Int)(wr:World):Prop where
 ext:Ext w wr
 kd:Blk wr w.heap.size 44 #[.pointer (some ⟨d,0,none⟩)]
 kg:Blk wr (w.heap.size+1) 41 gc
 kr:Blk wr (w.heap.size+1+1) 65 #[.int .i64 0,.int .i64 0,.int .i64 0,.int .i64 0]
 ku:Blk wr (w.heap.size+1+1+1) 22 #[.slice B m c]
 own:wr.ownsRow (w.heap.size+4) 3 1 (.slice B m c) m (yb us)
theorem LpSt.new{w:World}{d:Nat}{gc:Array Value}:LpSt w d gc none 0 0 [] ((((w.alloc (.cells #[.pointer (some ⟨d,0,none⟩)] 44)).alloc (.cells gc 41)).alloc (.cells #[.int .i64 0,.int .i64 0,.int .i64 0,.int .i64 0] 65)).alloc (.cells #[.slice none 0 0] 22)):=
 ⟨by exact jX,Blk.alloc (Blk.alloc (Blk.alloc (Blk.new rfl) _) _) _,Blk.alloc (Blk.alloc (Blk.new (by simp)) _) _,Blk.alloc (Blk.new (by simp)) _,Blk.new (by simp),zP _ _ _ _⟩
theorem LpSt.push{w wr w2:World}{d:Nat}{gc:Array Value}{B A2:Option Addr}{m c c2:Nat}{us:List Int}{z:Int}(h:LpSt w d gc B m c us wr)
 (hO:w2.ownsRow (w.heap.size+4) 3 1 (.slice A2 (m+1) c2) (m+1) (yb us++ [.int .i64 z])) (hg:(wr.alloc (.cells #[.int .i64 z] 3)).grownBy w2 (Value.slice B m c).ownBlock):
 LpSt w d gc A2 (m+1) c2 (us++ [z]) (w2.setCell ⟨w.heap.size+1+1+1,0,none⟩ (.slice A2 (m+1) c2)):=by
 have hb: ∀q∈(Value.slice B m c).ownBlock.toList,w.heap.size+4<=q:=fun q hq=>(World.ownsRow.lt h.own q (by simpa using hq)).1
 have hB:=zL hg;have ks: ∀{k:Nat} {t:TypeId} {cs:Array Value},Blk wr k t cs->k<w.heap.size+4->Blk w2 k t cs:=fun hk hl=>(hk.alloc _).but hB (fun hm=>by have:=hb _ hm;omega)
 refine⟨Ext.setCell (But.ext (Ext.alloc h.ext _) hB (fun q hq=>by have:=hb q hq;omega)) (by show w.heap.size<=w.heap.size+1+1+1;omega) _,(ks h.kd (by omega)).far (by show w.heap.size≠w.heap.size+1+1+1;omega) _,(ks h.kg (by omega)).far (by show w.heap.size+1≠w.heap.size+1+1+1;omega) _,
  (ks h.kr (by omega)).far (by show w.heap.size+1+1≠w.heap.size+1+1+1;omega) _,by simpa using(ks h.ku (by omega)).set_ 0 (.slice A2 (m+1) c2),?_⟩
 have:yb (us++ [z])=yb us++ [.int .i64 z]:=by simp[yb]
 rw[this];exact yu hO (by show w.heap.size+1+1+1<w.heap.size+4;omega) _
theorem zb5{w:World}{b d:Nat}{t:TypeId}{cs:Array Value}(h:Dk w d)(k:Blk w b t cs)(ht:t≠54):b≠d:=by
 obtain⟨_,_,_,_,_,h1,_⟩:=h;exact k.ne_ h1 ht
theorem zh3{b d:Nat}(h:b≠d):b∉ [d]:=by simpa using h
structure OpSt(cz:Int)(w:World)(d q:Nat)(U:Option Addr)(m c:Nat)(us:List Int)(w':World):Prop where
 big:But [d] w w'
 dk:Dk w' d
 kd:Blk w' w.heap.size 44 #[.pointer (some ⟨d,0,none⟩)]
 ku:Blk w' (w.heap.size+1+1+1) 22 #[.slice U m c]
 rd:Rd w' U m 1 (yb us)
 kr:Blk w' (w.heap.size+1+1) 65 #[.int .i64 0,.int .i64 0,.int .i64 0,.int .i64 0]
 kq: ∃b e f:Int,Blk w' q 65 #[.int .i64 cz,.int .i64 b,.int .i64 e,.int .i64 f]∧(cz=1->0<=b∧b<=15∧0<=e∧e<=32)
 hq:w.heap.size+4<=q
 hU:0<m-> ∀ad,U=some ad->w.heap.size+4<=ad.block∧ad.block≠q
 hd:d<w.heap.size
section
variable{cz:Int} {w w1 w2:World} {d q m c:Nat} {U:Option Addr} {us:List Int}
theorem OpSt.ext(h:OpSt cz w d q U m c us w1)(he:Ext w1 w2):OpSt cz w d q U m c us w2:=
 ⟨h.big.trans (he.but _),h.dk.ext he,h.kd.ext he,h.ku.ext he,h.rd.ext he,h.kr.ext he,by obtain⟨b,e,f,k,hk⟩:=h.kq;exact⟨b,e,f,k.ext he,hk⟩,h.hq,h.hU,h.hd⟩
theorem OpSt.next(h:OpSt cz w d q U m c us w1)(hk:Dk w2 d)(he:But [d] w1 w2):OpSt cz w d q U m c us w2:=by
 have hd:=h.hd;have hq:=h.hq;have ne: ∀{x:Nat},w.heap.size<=x->x∉ [d]:=fun hx hm=>by have:=List.mem_singleton.1 hm;omega
 exact⟨h.big.trans he,hk,h.kd.but he (ne (by omega)),h.ku.but he (ne (by omega)),kJ h.rd he (fun h0 ad ha=>by have:=(h.hU h0 ad ha).1;omega),h.kr.but he (ne (by omega)),
  by obtain⟨b,e,f,k,hk⟩:=h.kq;exact⟨b,e,f,k.but he (ne (by omega)),hk⟩,h.hq,h.hU,h.hd⟩
theorem OpSt.store(h:OpSt cz w d q U m c us w1)(i:Nat)(z:Int)(h1:cz=1->(i=1->0<=z∧z<=15)∧(i=2->0<=z∧z<=32):=by intro h;omega)(h0:i≠0:=by omega):OpSt cz w d q U m c us (w1.setCell ⟨q,i,none⟩ (.int .i64 z)):=by
 have hd:=h.hd;have hq:=h.hq;have hl:=h.big.size
 refine⟨But.fresh h.big (by show w.heap.size<=q;omega) _,h.dk.but (But.setCell (S:= [q]) (But.refl _ _) (by simp) _) (fun x hx=>by have:=List.mem_singleton.1 hx;omega),h.kd.far (by show w.heap.size≠q;omega) _,h.ku.far (by show w.heap.size+1+1+1≠q;omega) _,
  kJ h.rd (But.setCell (S:= [q]) (But.refl _ _) (by simp) _) (fun h0 ad ha=>(h.hU h0 ad ha).2),h.kr.far (by show w.heap.size+1+1≠q;omega) _,?_,h.hq,h.hU,h.hd⟩
 obtain⟨b,e,f,k,hk⟩:=h.kq;have k2:=k.set_ i (.int .i64 z)
 match i with
 |0=>exact absurd rfl h0
 |1=>exact⟨z,e,f,by simpa using k2,fun hc=>⟨((h1 hc).1 rfl).1,((h1 hc).1 rfl).2,(hk hc).2.2.1,(hk hc).2.2.2⟩⟩
 |2=>exact⟨b,z,f,by simpa using k2,fun hc=>⟨(hk hc).1,(hk hc).2.1,((h1 hc).2 rfl).1,((h1 hc).2 rfl).2⟩⟩
 |3=>exact⟨b,e,z,by simpa using k2,hk⟩
 |i+4=>exact⟨b,e,f,by simpa using k2,hk⟩
theorem OpSt.store7(h:OpSt cz w d q U m c us w1)(z:Int)(hz:z≠1):OpSt z w d q U m c us (w1.setCell ⟨q,0,none⟩ (.int .i64 z)):=by
 have hd:=h.hd;have hq:=h.hq;have hl:=h.big.size
 refine⟨But.fresh h.big (by show w.heap.size<=q;omega) _,h.dk.but (But.setCell (S:= [q]) (But.refl _ _) (by simp) _) (fun x hx=>by have:=List.mem_singleton.1 hx;omega),h.kd.far (by show w.heap.size≠q;omega) _,h.ku.far (by show w.heap.size+1+1+1≠q;omega) _,
  kJ h.rd (But.setCell (S:= [q]) (But.refl _ _) (by simp) _) (fun h0 ad ha=>(h.hU h0 ad ha).2),h.kr.far (by show w.heap.size+1+1≠q;omega) _,?_,h.hq,h.hU,h.hd⟩
 obtain⟨b,e,f,k,hk⟩:=h.kq;exact⟨b,e,f,by simpa using k.set_ 0 (.int .i64 z),fun hc=>absurd hc hz⟩
theorem OpSt.fin(h:OpSt cz w d q U m c us w1)(x y z u:Value):Dk ((((w1.setCell ⟨w.heap.size+1+1,0,none⟩ x).setCell ⟨w.heap.size+1+1,1,none⟩ y).setCell ⟨w.heap.size+1+1,2,none⟩ z).setCell ⟨w.heap.size+1+1,3,none⟩ u) d∧
 But [d] w ((((w1.setCell ⟨w.heap.size+1+1,0,none⟩ x).setCell ⟨w.heap.size+1+1,1,none⟩ y).setCell ⟨w.heap.size+1+1,2,none⟩ z).setCell ⟨w.heap.size+1+1,3,none⟩ u)∧
 (∀i,((((w1.setCell ⟨w.heap.size+1+1,0,none⟩ x).setCell ⟨w.heap.size+1+1,1,none⟩ y).setCell ⟨w.heap.size+1+1,2,none⟩ z).setCell ⟨w.heap.size+1+1,3,none⟩ u).cell? ⟨w.heap.size+1+1,i,none⟩= #[x,y,z,u][i]?):=by
 have hd:=h.hd;have k:=(((h.kr.set_ 0 x).set_ 1 y).set_ 2 z).set_ 3 u;have hb:But [w.heap.size+1+1] w1 ((((w1.setCell ⟨w.heap.size+1+1,0,none⟩ x).setCell ⟨w.heap.size+1+1,1,none⟩ y).setCell ⟨w.heap.size+1+1,2,none⟩ z).setCell ⟨w.heap.size+1+1,3,none⟩ u):=by exact jB
 refine⟨h.dk.but hb (fun a ha=>by have:=List.mem_singleton.1 ha;omega),?_,fun i=>by rw[k.cell];rfl⟩;exact But.fresh (But.fresh (But.fresh (But.fresh h.big (by show w.heap.size<=w.heap.size+1+1;omega) _) (by show w.heap.size<=w.heap.size+1+1;omega) _) (by show w.heap.size<=w.heap.size+1+1;omega) _) (by show w.heap.size<=w.heap.size+1+1;omega) _
end
theorem op20_any(d:Nat)(v:Value)(g:Gr)(w:World)(hD:Dk w d)(hg:GRd w v g)(hlu:g.us.length<=1000):Calls Tryz.prog 19 #[.pointer (some ⟨d,0,none⟩),v] w (zsa w d):=by
 obtain⟨A0,a0,B0,b0,C0,c0,rfl⟩:=hg.sl;have hdl:=hD.lt;go_enter Tryz.func19,Tryz.ntmps19;go_upto_region 2 with fail;have hL:=LpSt.new (w:=w) (d:=d) (gc:= #[.slice A0 g.ns.length a0,.slice B0 g.us.length b0,.slice C0 g.rs.length c0]);generalize(((w.alloc (.cells #[.pointer (some ⟨d,0,none⟩)] 44)).alloc (.cells #[.slice A0 g.ns.length a0,.slice B0 g.us.length b0,.slice C0 g.rs.length c0] 41)).alloc (.cells #[.int .i64 0,.int .i64 0,.int .i64 0,.int .i64 0] 65)).alloc (.cells #[.slice none 0 0] 22)=W at hL|-;obtain⟨hU0,_⟩:=hg.rows;have m1:=hL.kg.cell;go_wp2_with fail;go_loopw [13] (fun i wr=> ∃(k:Nat) (B:Option Addr) (dd:Nat),k<=g.us.length∧i= .int .i64 k∧LpSt w d #[.slice A0 g.ns.length a0,.slice B0 g.us.length b0,.slice C0 g.rs.length c0] B (qG g.us k).length dd (qG g.us k) wr) (fun i _=>g.us.length-(intOf i).toNat);case atStart=>exact⟨0,none,0,by omega,rfl,hL⟩
 case round=>
  clear hL m1;obtain⟨k,B,dd,hk,rfl,hL⟩:=hrel;have hll:=zh0 g.us k;have m3:=hL.ku.cell;have f3:=hL.ku.froz;have l3:=hL.ku.lt;by_cases hlt:k<g.us.length
  ·have hdec:decide ((k:Int)<g.us.length)=true:=by simp;omega
   have hdec':decide (k<g.us.length)=true:=by simp;omega
   have hkb:(k:Int)<g.us.length:=by omega
   obtain⟨u,hu⟩: ∃u,g.us[k]? =some u:=⟨_,List.getElem?_eq_getElem hlt⟩;obtain⟨bb,ob,rfl,hcb⟩:=zqm (hU0.ext hL.ext) hu;have Hu:=Lib.hid hu;have lbb:=zh hcb;clear hu;cases u
   ·have hs:=zk1 Hu.out
    have Hs:=Lib.hid hs;clear hs m3 f3;go_wp2;go_roundw;case rel=>exact⟨k+1,B,dd,by omega,by go_num,by rw[Hs.out];exact hL⟩
    case measure=>simp[intOf];omega
   ·have hs:=zh1 Hu.out
    have Hs:=Lib.hid hs;clear hs;generalize hzl:qG g.us k=zl at*;have hub:w.heap.size+1+1+1∉(Value.slice B zl.length dd).ownBlock.toList:=fun hm=>by have:=(World.ownsRow.lt hL.own _ (by simpa using hm)).1;omega
    have hkb2:(k:Int)<=1000:=by omega
    clear hzl;go_wp2_with(first|(at_builtin;refine zJ rfl Tryz.el22 _ _ rfl (w.heap.size+4) _ _ _ rfl (z8 hL.own _) _ 1 1 _ rfl (xm _ _ _) (by simp[Value.oneCell']) (by omega) (by omega) (by(first|omega|(simp;done)|(simp;omega))) ?_;intro A2 c2 w2 hO2 hg2 hat2;have g2:(wr.alloc (.cells #[.int .i64 ((k:Int)+1)] 3)).grownBy w2 (Value.slice B zl.length dd).ownBlock:=hg2;have hL2:=hL.push hO2 g2;have cu2:=(Blk.but (hL.ku.alloc (.cells #[.int .i64 ((k:Int)+1)] 3)) (zL g2) hub).cell;have fu2:=(Blk.but (hL.ku.alloc (.cells #[.int .i64 ((k:Int)+1)] 3)) (zL g2) hub).froz));have hl2:(zl++ [(k:Int)+1]).length=zl.length+1:=by simp
    have Hl2:=Lib.hid hl2;clear hl2;go_roundw;case rel=>exact⟨k+1,A2,c2,by omega,by go_num,by rw[Hs.out,Hl2.out];exact hL2⟩
    case measure=>simp[intOf];omega
  ·have hdec:decide ((k:Int)<g.us.length)=false:=by simp;omega
   have hdec':decide (k<g.us.length)=false:=by simp;omega
   have hkn:k=g.us.length:=by omega
   subst hkn;obtain⟨zl,hzl⟩: ∃zl,qG g.us g.us.length=zl:=⟨_,rfl⟩;rw[hzl]at hL m3 hll;clear hzl hU0;have m0:=hL.kd.cell;have l0:=hL.kd.lt;have hDk:=hD.ext hL.ext;go_upto_region 10 with(first|(go_at_call 17;refine(zG d _ _ (hDk.ext jX) (by omega) (by omega)).mono ?_;rintro e w1 ⟨x,rfl,hx0,hx1,hDk1,hB1⟩;(obtain⟨i,rfl⟩: ∃i:Nat,x=i:=⟨x.toNat,by omega⟩);have hi20:i<20:=(by omega);have hi20':(i:Int)<20:=(by omega);(obtain⟨z,hz⟩:=zn0 i hi20);have hbw:w.heap.size<wr.heap.size:=(by omega);have hcz:=zei (S:= [d]) hB1 (b:=wr.heap.size) (o:=i) (by simp;omega) ((zh2 wr i).trans hz)))
   have hS:OpSt z w d w1.heap.size B zl.length dd zl (w1.alloc (.cells #[.int .i64 z,.int .i64 0,.int .i64 0,.int .i64 0] 65)):=by
    have hz1:=hB1.size;simp at hz1;have ne: ∀{x:Nat},w.heap.size<=x->x∉ [d]:=fun hx hm=>by have:=List.mem_singleton.1 hm;omega
    have hE1:Ext wr (wr.alloc (.cells (yb zck).toArray 3)):=Ext.alloc (Ext.refl _) _;have hB2:But [d] (wr.alloc (.cells (yb zck).toArray 3)) w1:=hB1;have hB3:=hB2.alloc (.cells #[.int .i64 z,.int .i64 0,.int .i64 0,.int .i64 0] 65);have hl3:=hL.kr.lt;have hrd:Rd wr B zl.length 1 (yb zl):=Rd.of_own hL.own
    have hUb:0<zl.length-> ∀ad,B=some ad->w.heap.size+4<=ad.block∧ad.block<wr.heap.size:=fun h0 ad ha=>by
     obtain⟨gg,he,h1,h2⟩:=yD hL.own h0;rw[ha]at he;injection he with he;subst he;exact⟨h1,h2⟩
    exact⟨(hL.ext.but _).trans ((hE1.but _).trans hB3),hDk1.ext (Ext.alloc (Ext.refl _) _),(hL.kd.ext hE1).but hB3 (ne (by omega)),(hL.ku.ext hE1).but hB3 (ne (by omega)),kJ (hrd.ext hE1) hB3 (fun h0 ad ha=>by have:=(hUb h0 ad ha).1;omega),(hL.kr.ext hE1).but hB3 (ne (by omega)),
     ⟨0,0,0,Blk.new rfl,fun _=>by omega⟩,by omega,fun h0 ad ha=>⟨(hUb h0 ad ha).1,by have:=(hUb h0 ad ha).2;omega⟩,hdl⟩
   have kq:Blk (w1.alloc (.cells #[.int .i64 z,.int .i64 0,.int .i64 0,.int .i64 0] 65)) w1.heap.size 65 #[.int .i64 z,.int .i64 0,.int .i64 0,.int .i64 0]:=Blk.new rfl;generalize w1.alloc (.cells #[.int .i64 z,.int .i64 0,.int .i64 0,.int .i64 0] 65)=W9 at hS kq|-;generalize w1.heap.size=q at hS kq|-;clear hcz hbw hB1 hDk1 hDk m0 l0 hL m3 f3 l3 hz hx0 hx1;have n0:w.heap.size≠d:=by omega
   have n1:w.heap.size≠q:=by have:=hS.hq;omega
   have n2:w.heap.size+1+1+1≠q:=by have:=hS.hq;omega
   have n3:w.heap.size+1+1+1≠d:=by omega
   have n4:q≠d:=by have:=hS.hq;omega
   have n5:d≠q:=by omega
   have n6:d<q:=by have:=hS.hq;omega
   have m0:=hS.kd.cell;have m3:=hS.ku.cell;have mq:=kq.cell;have fq:=kq.froz;by_cases hm:20<zl.length
   ·have hm1:decide ((20:Int)<zl.length)=true:=by simp;omega
    have hm2:decide (20<zl.length)=true:=by simp;omega
    by_cases c1:z=1
    ·subst c1
     go_upto_region 12 with fail;replace hS:=hS.store7 7 (by omega);have one:True:=trivial;(obtain⟨_,_,_,kq',_⟩:=hS.kq);have m3':=hS.ku.cell;have m0':=hS.kd.cell;go_upto_region 27 with(first|(go_at_call 30;refine(yX w.heap.size (w.heap.size+1+1+1) d zl.length dd B zl _ hS.ku hS.kd hS.dk hS.rd (fun h0 ad ha=>by have:=(hS.hU h0 ad ha).1;omega) (by omega) (by omega) (by omega)).mono ?_;rintro e w1 ⟨x1,rfl,hDk,hB⟩;replace hS:=hS.next hDk hB;(obtain⟨_,_,_,kq',_⟩:=hS.kq);have cq:=kq'.cell;have fq:=kq'.froz;(first|(clear one;obtain⟨xa,rfl⟩: ∃y,y=x1:=⟨_,rfl⟩)|(obtain⟨xb,rfl⟩: ∃y,y=x1:=⟨_,rfl⟩))));replace hS:=hS.store 1 xa;obtain⟨f0,f1,f2,f3,kf,hf⟩: ∃f0 f1 f2 f3:Int,Blk _ q 65 #[.int .i64 f0,.int .i64 f1,.int .i64 f2,.int .i64 f3]∧(f0=1->0<=f1∧f1<=15∧0<=f2∧f2<=32):=⟨_,hS.kq⟩;have cf:=kf.cell;have cr:=hS.kr.cell;have fr:=hS.kr.froz;have hq3:=hS.hq;have nqr:q≠w.heap.size+1+1:=by omega
     have nrq:w.heap.size+1+1≠q:=by omega
     obtain⟨e1,e2,e3⟩:=hS.fin (.int .i64 f0) (.int .i64 f1) (.int .i64 f2) (.int .i64 f3);go_wp2;exact bodyPost_ret (v:= .agg #[.int .i64 f0,.int .i64 f1,.int .i64 f2,.int .i64 f3]) (by simp[results,Tryz.results19,go_sem,e3]) rfl ⟨f0,f1,f2,f3,rfl,hf,e1,e2⟩
    have z1:(z==1)=false:=by simpa using c1
    go_upto_region 12 with fail;by_cases c2:z=2
    ·subst c2
     go_upto_region 17 with fail;replace hS:=hS.ext (Ext.drew (Ext.refl _));refine zM [d,q] (.take 0 (.take 2 (.alt 1 (.take 4 (.alt 3 (.alt 5 (.take 6 (.alt 7 .done .none)) .none) .none)) .none))) Tryz.mixed (by kernel_rfl) ?_;intro hx hy;iterate 2 (first|refine jTB hx ?_|refine jTS ?_)
     refine jCB hx (fun K hK=> ?_);go_simp;go_at_call 30;refine(yX w.heap.size (w.heap.size+1+1+1) d zl.length dd B zl _ hS.ku hS.kd hS.dk hS.rd (fun h0 ad ha=>by have:=(hS.hU h0 ad ha).1;omega) (by omega) (by omega) (by omega)).mono ?_;rintro e w1 ⟨x1,rfl,hDk,hB⟩;replace hS:=hS.next hDk hB;refine hK _ _ (But.more hB (by simp)) ?_;clear hK hx;intro hx;refine jp ?_;first|refine jTB hx ?_|refine jTS ?_
     refine jCB hx (fun K hK=> ?_);go_simp;go_at_call 17;refine(zG d _ _ hS.dk (by omega) (by omega)).mono ?_;rintro e w1 ⟨x2,rfl,hy0,hy1,hDk,hB⟩;replace hS:=hS.next hDk hB;refine hK _ _ (But.more hB (by simp)) ?_;clear hK hx;intro hx;refine jp ?_;refine jTT (fun K hK=> ?_);have hcy:=Ext.cell hy;have hfy:=Ext.froz hy;(obtain⟨_,_,_,kq',_⟩:=hS.kq);have cq:=kq'.cell;have fq:=kq'.froz;go_simp;refine hK _ jB ?_;clear hK;intro hr;replace hS:=hS.store 1 x1;replace hx:=hx.trans hr;clear hr;first|refine jTB hx ?_|refine jTS ?_
     refine jTT (fun K hK=> ?_);have hcy:=Ext.cell hy;have hfy:=Ext.froz hy;(obtain⟨_,_,_,kq',_⟩:=hS.kq);have cq:=kq'.cell;have fq:=kq'.froz;go_simp;refine hK _ jB ?_;clear hK;intro hr;replace hS:=hS.store 2 x2;replace hx:=hx.trans hr;clear hr;refine zi ?_;obtain⟨f0,f1,f2,f3,kf,hf⟩: ∃f0 f1 f2 f3:Int,Blk _ q 65 #[.int .i64 f0,.int .i64 f1,.int .i64 f2,.int .i64 f3]∧(f0=1->0<=f1∧f1<=15∧0<=f2∧f2<=32):=⟨_,hS.kq⟩;have cf:=kf.cell;have cr:=hS.kr.cell;have fr:=hS.kr.froz;have hq3:=hS.hq;have nqr:q≠w.heap.size+1+1:=by omega
     have nrq:w.heap.size+1+1≠q:=by omega
     obtain⟨e1,e2,e3⟩:=hS.fin (.int .i64 f0) (.int .i64 f1) (.int .i64 f2) (.int .i64 f3);go_wp2;exact bodyPost_ret (v:= .agg #[.int .i64 f0,.int .i64 f1,.int .i64 f2,.int .i64 f3]) (by simp[results,Tryz.results19,go_sem,e3]) rfl ⟨f0,f1,f2,f3,rfl,hf,e1,e2⟩
    have z2:(z==2)=false:=by simpa using c2
    by_cases c4:z=4
    ·subst c4
     go_upto_region 17 with fail;replace hS:=hS.ext (Ext.drew (Ext.refl _));refine zM [d,q] (.take 0 (.take 2 (.alt 1 (.take 4 (.alt 3 (.alt 5 (.take 6 (.alt 7 .done .none)) .none) .none)) .none))) Tryz.mixed (by kernel_rfl) ?_;intro hx hy;iterate 2 (first|refine jTB hx ?_|refine jTS ?_)
     refine jCB hx (fun K hK=> ?_);go_simp;go_at_call 30;refine(yX w.heap.size (w.heap.size+1+1+1) d zl.length dd B zl _ hS.ku hS.kd hS.dk hS.rd (fun h0 ad ha=>by have:=(hS.hU h0 ad ha).1;omega) (by omega) (by omega) (by omega)).mono ?_;rintro e w1 ⟨x1,rfl,hDk,hB⟩;replace hS:=hS.next hDk hB;refine hK _ _ (But.more hB (by simp)) ?_;clear hK hx;intro hx;refine jp ?_;first|refine jTB hx ?_|refine jTS ?_
     refine jCB hx (fun K hK=> ?_);go_simp;go_at_call 17;refine(zG d _ _ hS.dk (by omega) (by omega)).mono ?_;rintro e w1 ⟨x2,rfl,hy0,hy1,hDk,hB⟩;replace hS:=hS.next hDk hB;refine hK _ _ (But.more hB (by simp)) ?_;clear hK hx;intro hx;refine jp ?_;refine jTT (fun K hK=> ?_);have hcy:=Ext.cell hy;have hfy:=Ext.froz hy;(obtain⟨_,_,_,kq',_⟩:=hS.kq);have cq:=kq'.cell;have fq:=kq'.froz;go_simp;refine hK _ jB ?_;clear hK;intro hr;replace hS:=hS.store 1 x1;replace hx:=hx.trans hr;clear hr;first|refine jTB hx ?_|refine jTS ?_
     refine jTT (fun K hK=> ?_);have hcy:=Ext.cell hy;have hfy:=Ext.froz hy;(obtain⟨_,_,_,kq',_⟩:=hS.kq);have cq:=kq'.cell;have fq:=kq'.froz;go_simp;refine hK _ jB ?_;clear hK;intro hr;replace hS:=hS.store 2 x2;replace hx:=hx.trans hr;clear hr;refine zi ?_;obtain⟨f0,f1,f2,f3,kf,hf⟩: ∃f0 f1 f2 f3:Int,Blk _ q 65 #[.int .i64 f0,.int .i64 f1,.int .i64 f2,.int .i64 f3]∧(f0=1->0<=f1∧f1<=15∧0<=f2∧f2<=32):=⟨_,hS.kq⟩;have cf:=kf.cell;have cr:=hS.kr.cell;have fr:=hS.kr.froz;have hq3:=hS.hq;have nqr:q≠w.heap.size+1+1:=by omega
     have nrq:w.heap.size+1+1≠q:=by omega
     obtain⟨e1,e2,e3⟩:=hS.fin (.int .i64 f0) (.int .i64 f1) (.int .i64 f2) (.int .i64 f3);go_wp2;exact bodyPost_ret (v:= .agg #[.int .i64 f0,.int .i64 f1,.int .i64 f2,.int .i64 f3]) (by simp[results,Tryz.results19,go_sem,e3]) rfl ⟨f0,f1,f2,f3,rfl,hf,e1,e2⟩
    have z4:(z==4)=false:=by simpa using c4
    by_cases c3:z=3
    ·subst c3
     go_upto_region 19 with fail;replace hS:=hS.ext (Ext.drew (Ext.refl _));refine zM [d,q] (.take 0 (.take 2 (.take 4 (.alt 1 (.take 6 (.alt 3 (.alt 5 (.alt 7 (.take 8 (.alt 9 (.take 10 (.alt 11 .done .none)) .none)) .none) .none) .none)) .none)))) Tryz.mixed (by kernel_rfl) ?_;intro hx hy;iterate 3 (first|refine jTB hx ?_|refine jTS ?_)
     refine jCB hx (fun K hK=> ?_);go_simp;go_at_call 30;refine(yX w.heap.size (w.heap.size+1+1+1) d zl.length dd B zl _ hS.ku hS.kd hS.dk hS.rd (fun h0 ad ha=>by have:=(hS.hU h0 ad ha).1;omega) (by omega) (by omega) (by omega)).mono ?_;rintro e w1 ⟨x1,rfl,hDk,hB⟩;replace hS:=hS.next hDk hB;refine hK _ _ (But.more hB (by simp)) ?_;clear hK hx;intro hx;refine jp ?_;first|refine jTB hx ?_|refine jTS ?_
     refine jCB hx (fun K hK=> ?_);go_simp;go_at_call 17;refine(zG d _ _ hS.dk (by omega) (by omega)).mono ?_;rintro e w1 ⟨x2,rfl,hy0,hy1,hDk,hB⟩;replace hS:=hS.next hDk hB;refine hK _ _ (But.more hB (by simp)) ?_;clear hK hx;intro hx;refine jp ?_;refine jCB hx (fun K hK=> ?_);go_simp;go_at_call 30;refine(yX w.heap.size (w.heap.size+1+1+1) d zl.length dd B zl _ hS.ku hS.kd hS.dk hS.rd (fun h0 ad ha=>by have:=(hS.hU h0 ad ha).1;omega) (by omega) (by omega) (by omega)).mono ?_;rintro e w1 ⟨x3,rfl,hDk,hB⟩;replace hS:=hS.next hDk hB;refine hK _ _ (But.more hB (by simp)) ?_;clear hK hx;intro hx;refine jp ?_;refine jTT (fun K hK=> ?_);have hcy:=Ext.cell hy;have hfy:=Ext.froz hy;(obtain⟨_,_,_,kq',_⟩:=hS.kq);have cq:=kq'.cell;have fq:=kq'.froz;go_simp;refine hK _ jB ?_;clear hK;intro hr;replace hS:=hS.store 1 x1;replace hx:=hx.trans hr;clear hr;first|refine jTB hx ?_|refine jTS ?_
     refine jTT (fun K hK=> ?_);have hcy:=Ext.cell hy;have hfy:=Ext.froz hy;(obtain⟨_,_,_,kq',_⟩:=hS.kq);have cq:=kq'.cell;have fq:=kq'.froz;go_simp;refine hK _ jB ?_;clear hK;intro hr;replace hS:=hS.store 2 x2;replace hx:=hx.trans hr;clear hr;first|refine jTB hx ?_|refine jTS ?_
     refine jTT (fun K hK=> ?_);have hcy:=Ext.cell hy;have hfy:=Ext.froz hy;(obtain⟨_,_,_,kq',_⟩:=hS.kq);have cq:=kq'.cell;have fq:=kq'.froz;go_simp;refine hK _ jB ?_;clear hK;intro hr;replace hS:=hS.store 3 x3;replace hx:=hx.trans hr;clear hr;refine zi ?_;obtain⟨f0,f1,f2,f3,kf,hf⟩: ∃f0 f1 f2 f3:Int,Blk _ q 65 #[.int .i64 f0,.int .i64 f1,.int .i64 f2,.int .i64 f3]∧(f0=1->0<=f1∧f1<=15∧0<=f2∧f2<=32):=⟨_,hS.kq⟩;have cf:=kf.cell;have cr:=hS.kr.cell;have fr:=hS.kr.froz;have hq3:=hS.hq;have nqr:q≠w.heap.size+1+1:=by omega
     have nrq:w.heap.size+1+1≠q:=by omega
     obtain⟨e1,e2,e3⟩:=hS.fin (.int .i64 f0) (.int .i64 f1) (.int .i64 f2) (.int .i64 f3);go_wp2;exact bodyPost_ret (v:= .agg #[.int .i64 f0,.int .i64 f1,.int .i64 f2,.int .i64 f3]) (by simp[results,Tryz.results19,go_sem,e3]) rfl ⟨f0,f1,f2,f3,rfl,hf,e1,e2⟩
    have z3:(z==3)=false:=by simpa using c3
    by_cases c5:z=5
    ·subst c5
     go_upto_region 21 with fail;replace hS:=hS.ext (Ext.drew (Ext.refl _));refine zM [d,q] (.take 0 (.take 2 (.take 4 (.alt 1 (.take 6 (.alt 3 (.alt 5 (.alt 7 (.take 8 (.alt 9 (.take 10 (.alt 11 .done .none)) .none)) .none) .none) .none)) .none)))) Tryz.mixed (by kernel_rfl) ?_;intro hx hy;iterate 3 (first|refine jTB hx ?_|refine jTS ?_)
     refine jCB hx (fun K hK=> ?_);go_simp;go_at_call 30;refine(yX w.heap.size (w.heap.size+1+1+1) d zl.length dd B zl _ hS.ku hS.kd hS.dk hS.rd (fun h0 ad ha=>by have:=(hS.hU h0 ad ha).1;omega) (by omega) (by omega) (by omega)).mono ?_;rintro e w1 ⟨x1,rfl,hDk,hB⟩;replace hS:=hS.next hDk hB;refine hK _ _ (But.more hB (by simp)) ?_;clear hK hx;intro hx;refine jp ?_;first|refine jTB hx ?_|refine jTS ?_
     refine jCB hx (fun K hK=> ?_);go_simp;go_at_call 17;refine(zG d _ _ hS.dk (by omega) (by omega)).mono ?_;rintro e w1 ⟨x2,rfl,hy0,hy1,hDk,hB⟩;replace hS:=hS.next hDk hB;refine hK _ _ (But.more hB (by simp)) ?_;clear hK hx;intro hx;refine jp ?_;refine jCB hx (fun K hK=> ?_);go_simp;go_at_call 17;refine(zG d _ _ hS.dk (by omega) (by omega)).mono ?_;rintro e w1 ⟨x3,rfl,hy0,hy1,hDk,hB⟩;replace hS:=hS.next hDk hB;refine hK _ _ (But.more hB (by simp)) ?_;clear hK hx;intro hx;refine jp ?_;refine jTT (fun K hK=> ?_);have hcy:=Ext.cell hy;have hfy:=Ext.froz hy;(obtain⟨_,_,_,kq',_⟩:=hS.kq);have cq:=kq'.cell;have fq:=kq'.froz;go_simp;refine hK _ jB ?_;clear hK;intro hr;replace hS:=hS.store 1 x1;replace hx:=hx.trans hr;clear hr;first|refine jTB hx ?_|refine jTS ?_
     refine jTT (fun K hK=> ?_);have hcy:=Ext.cell hy;have hfy:=Ext.froz hy;(obtain⟨_,_,_,kq',_⟩:=hS.kq);have cq:=kq'.cell;have fq:=kq'.froz;go_simp;refine hK _ jB ?_;clear hK;intro hr;replace hS:=hS.store 2 x2;replace hx:=hx.trans hr;clear hr;first|refine jTB hx ?_|refine jTS ?_
     refine jTT (fun K hK=> ?_);have hcy:=Ext.cell hy;have hfy:=Ext.froz hy;(obtain⟨_,_,_,kq',_⟩:=hS.kq);have cq:=kq'.cell;have fq:=kq'.froz;go_simp;refine hK _ jB ?_;clear hK;intro hr;replace hS:=hS.store 3 x3;replace hx:=hx.trans hr;clear hr;refine zi ?_;obtain⟨f0,f1,f2,f3,kf,hf⟩: ∃f0 f1 f2 f3:Int,Blk _ q 65 #[.int .i64 f0,.int .i64 f1,.int .i64 f2,.int .i64 f3]∧(f0=1->0<=f1∧f1<=15∧0<=f2∧f2<=32):=⟨_,hS.kq⟩;have cf:=kf.cell;have cr:=hS.kr.cell;have fr:=hS.kr.froz;have hq3:=hS.hq;have nqr:q≠w.heap.size+1+1:=by omega
     have nrq:w.heap.size+1+1≠q:=by omega
     obtain⟨e1,e2,e3⟩:=hS.fin (.int .i64 f0) (.int .i64 f1) (.int .i64 f2) (.int .i64 f3);go_wp2;exact bodyPost_ret (v:= .agg #[.int .i64 f0,.int .i64 f1,.int .i64 f2,.int .i64 f3]) (by simp[results,Tryz.results19,go_sem,e3]) rfl ⟨f0,f1,f2,f3,rfl,hf,e1,e2⟩
    have z5:(z==5)=false:=by simpa using c5
    by_cases c6:z=6
    ·subst c6
     have one:True:=trivial;go_upto_region 27 with(first|(go_at_call 30;refine(yX w.heap.size (w.heap.size+1+1+1) d zl.length dd B zl _ hS.ku hS.kd hS.dk hS.rd (fun h0 ad ha=>by have:=(hS.hU h0 ad ha).1;omega) (by omega) (by omega) (by omega)).mono ?_;rintro e w1 ⟨x1,rfl,hDk,hB⟩;replace hS:=hS.next hDk hB;(obtain⟨_,_,_,kq',_⟩:=hS.kq);have cq:=kq'.cell;have fq:=kq'.froz;(first|(clear one;obtain⟨xa,rfl⟩: ∃y,y=x1:=⟨_,rfl⟩)|(obtain⟨xb,rfl⟩: ∃y,y=x1:=⟨_,rfl⟩))));replace hS:=(hS.store 1 xa).store 2 xb;obtain⟨f0,f1,f2,f3,kf,hf⟩: ∃f0 f1 f2 f3:Int,Blk _ q 65 #[.int .i64 f0,.int .i64 f1,.int .i64 f2,.int .i64 f3]∧(f0=1->0<=f1∧f1<=15∧0<=f2∧f2<=32):=⟨_,hS.kq⟩;have cf:=kf.cell;have cr:=hS.kr.cell;have fr:=hS.kr.froz;have hq3:=hS.hq;have nqr:q≠w.heap.size+1+1:=by omega
     have nrq:w.heap.size+1+1≠q:=by omega
     obtain⟨e1,e2,e3⟩:=hS.fin (.int .i64 f0) (.int .i64 f1) (.int .i64 f2) (.int .i64 f3);go_wp2;exact bodyPost_ret (v:= .agg #[.int .i64 f0,.int .i64 f1,.int .i64 f2,.int .i64 f3]) (by simp[results,Tryz.results19,go_sem,e3]) rfl ⟨f0,f1,f2,f3,rfl,hf,e1,e2⟩
    have z6:(z==6)=false:=by simpa using c6
    by_cases c7:z=7
    ·subst c7
     have one:True:=trivial;go_upto_region 27 with(first|(go_at_call 30;refine(yX w.heap.size (w.heap.size+1+1+1) d zl.length dd B zl _ hS.ku hS.kd hS.dk hS.rd (fun h0 ad ha=>by have:=(hS.hU h0 ad ha).1;omega) (by omega) (by omega) (by omega)).mono ?_;rintro e w1 ⟨x1,rfl,hDk,hB⟩;replace hS:=hS.next hDk hB;(obtain⟨_,_,_,kq',_⟩:=hS.kq);have cq:=kq'.cell;have fq:=kq'.froz;(first|(clear one;obtain⟨xa,rfl⟩: ∃y,y=x1:=⟨_,rfl⟩)|(obtain⟨xb,rfl⟩: ∃y,y=x1:=⟨_,rfl⟩))));replace hS:=hS.store 1 xa;obtain⟨f0,f1,f2,f3,kf,hf⟩: ∃f0 f1 f2 f3:Int,Blk _ q 65 #[.int .i64 f0,.int .i64 f1,.int .i64 f2,.int .i64 f3]∧(f0=1->0<=f1∧f1<=15∧0<=f2∧f2<=32):=⟨_,hS.kq⟩;have cf:=kf.cell;have cr:=hS.kr.cell;have fr:=hS.kr.froz;have hq3:=hS.hq;have nqr:q≠w.heap.size+1+1:=by omega
     have nrq:w.heap.size+1+1≠q:=by omega
     obtain⟨e1,e2,e3⟩:=hS.fin (.int .i64 f0) (.int .i64 f1) (.int .i64 f2) (.int .i64 f3);go_wp2;exact bodyPost_ret (v:= .agg #[.int .i64 f0,.int .i64 f1,.int .i64 f2,.int .i64 f3]) (by simp[results,Tryz.results19,go_sem,e3]) rfl ⟨f0,f1,f2,f3,rfl,hf,e1,e2⟩
    have z7:(z==7)=false:=by simpa using c7
    by_cases c9:z=9
    ·subst c9
     have one:True:=trivial;go_upto_region 27 with(first|(go_at_call 30;refine(yX w.heap.size (w.heap.size+1+1+1) d zl.length dd B zl _ hS.ku hS.kd hS.dk hS.rd (fun h0 ad ha=>by have:=(hS.hU h0 ad ha).1;omega) (by omega) (by omega) (by omega)).mono ?_;rintro e w1 ⟨x1,rfl,hDk,hB⟩;replace hS:=hS.next hDk hB;(obtain⟨_,_,_,kq',_⟩:=hS.kq);have cq:=kq'.cell;have fq:=kq'.froz;(first|(clear one;obtain⟨xa,rfl⟩: ∃y,y=x1:=⟨_,rfl⟩)|(obtain⟨xb,rfl⟩: ∃y,y=x1:=⟨_,rfl⟩))));replace hS:=hS.store 1 xa;obtain⟨f0,f1,f2,f3,kf,hf⟩: ∃f0 f1 f2 f3:Int,Blk _ q 65 #[.int .i64 f0,.int .i64 f1,.int .i64 f2,.int .i64 f3]∧(f0=1->0<=f1∧f1<=15∧0<=f2∧f2<=32):=⟨_,hS.kq⟩;have cf:=kf.cell;have cr:=hS.kr.cell;have fr:=hS.kr.froz;have hq3:=hS.hq;have nqr:q≠w.heap.size+1+1:=by omega
     have nrq:w.heap.size+1+1≠q:=by omega
     obtain⟨e1,e2,e3⟩:=hS.fin (.int .i64 f0) (.int .i64 f1) (.int .i64 f2) (.int .i64 f3);go_wp2;exact bodyPost_ret (v:= .agg #[.int .i64 f0,.int .i64 f1,.int .i64 f2,.int .i64 f3]) (by simp[results,Tryz.results19,go_sem,e3]) rfl ⟨f0,f1,f2,f3,rfl,hf,e1,e2⟩
    have z9:(z==9)=false:=by simpa using c9
    go_upto_region 27 with fail;clear kq mq;obtain⟨f0,f1,f2,f3,kf,hf⟩: ∃f0 f1 f2 f3:Int,Blk _ q 65 #[.int .i64 f0,.int .i64 f1,.int .i64 f2,.int .i64 f3]∧(f0=1->0<=f1∧f1<=15∧0<=f2∧f2<=32):=⟨_,hS.kq⟩;have cf:=kf.cell;have cr:=hS.kr.cell;have fr:=hS.kr.froz;have hq3:=hS.hq;have nqr:q≠w.heap.size+1+1:=by omega
    have nrq:w.heap.size+1+1≠q:=by omega
    obtain⟨e1,e2,e3⟩:=hS.fin (.int .i64 f0) (.int .i64 f1) (.int .i64 f2) (.int .i64 f3);go_wp2;exact bodyPost_ret (v:= .agg #[.int .i64 f0,.int .i64 f1,.int .i64 f2,.int .i64 f3]) (by simp[results,Tryz.results19,go_sem,e3]) rfl ⟨f0,f1,f2,f3,rfl,hf,e1,e2⟩
   ·have hm1:decide ((20:Int)<zl.length)=false:=by simp;omega
    have hm2:decide (20<zl.length)=false:=by simp;omega
    go_upto_region 12 with fail;by_cases c1:z=1
    ·subst c1
     go_upto_region 14 with fail;replace hS:=hS.ext (Ext.drew (Ext.refl _));refine zM [d,q] (.take 0 (.take 2 (.take 4 (.alt 1 (.take 9 (.alt 3 (.alt 5 (.take 6 (.take 7 (.alt 8 (.alt 10 (.take 11 (.alt 12 .done .none)) .none) .none))) .none) (.alt 5 (.alt 3 (.take 6 (.take 7 (.alt 8 (.alt 10 (.take 11 (.alt 12 .done .none)) .none) .none))) .none) .none))) (.alt 3 (.alt 1 (.take 9 (.alt 5 (.take 6 (.take 7 (.alt 8 (.alt 10 (.take 11 (.alt 12 .done .none)) .none) .none))) .none)) .none) .none))))) Tryz.mixed (by kernel_rfl) ?_;intro hx hy;iterate 3 (first|refine jTB hx ?_|refine jTS ?_)
     refine jCB hx (fun K hK=> ?_) ?_;go_simp;go_at_call 17;refine(zG d _ _ hS.dk (by omega) (by omega)).mono ?_;rintro e w1 ⟨x1,rfl,hy0,hy1,hDk,hB⟩;replace hS:=hS.next hDk hB;(try(replace kb:=kb.but hB nbd));refine hK _ _ (But.more hB (by simp)) ?_;clear hK hx;intro hx;refine jp ?_;first|refine jTB hx ?_|refine jTS ?_
     refine jTC (fun K hK=> ?_) ?_;have hcy:=Ext.cell hy;have hfy:=Ext.froz hy;go_simp;first|refine hK _ _ jB ?_|refine hK undef _ jB ?_
     clear hK;intro hr;have kb:=jU hr;(obtain⟨_,_,_,kq',_⟩:=hS.kq);have lq:=kq'.lt;replace hS:=hS.ext (Ext.alloc (Ext.refl _) (.cells zje.toArray 3));have nbd:=zh3 (zb5 hS.dk kb (by decide));replace hx:=hx.trans hr;clear hr;refine jp ?_;refine jCB hx (fun K hK=> ?_);go_simp;go_at_call 17;refine(zG d _ _ hS.dk (by omega) (by omega)).mono ?_;rintro e w1 ⟨x2,rfl,hy0,hy1,hDk,hB⟩;replace hS:=hS.next hDk hB;(try(replace kb:=kb.but hB nbd));(obtain⟨i2,rfl⟩: ∃i2:Nat,x2=i2:=⟨x2.toNat,by omega⟩);have hi4:i2<4:=(by omega);have hi4':(i2:Int)<4:=(by omega);refine hK _ _ (But.more hB (by simp)) ?_;clear hK hx;intro hx;refine jp ?_;first|refine jTB hx ?_|refine jTS ?_
     (obtain⟨y,hsz,hs1,hs17⟩:=zcl i2 hi4);have cy:=(kb.cell i2).trans hsz;have ly:=kb.lt;(obtain⟨_,_,_,kq',_⟩:=hS.kq);have nb1:=kb.ne_ kq' (by decide);have nb2:=zb5 hS.dk kb (by decide);(first|(replace cy:w1.cell? ⟨W9.heap.size,i2,none⟩=some (.int .i64 y):=cy;replace nb1:W9.heap.size≠q:=nb1;replace nb2:W9.heap.size≠d:=nb2;replace ly:W9.heap.size<w1.heap.size:=ly)|skip);first|refine jTB (But.refl _ _) ?_|refine jTS ?_
     refine jCB hx (fun K hK=> ?_);go_simp;go_at_call 17;refine(zG d _ _ hS.dk (by omega) (by omega)).mono ?_;rintro e w1 ⟨x3,rfl,hy0,hy1,hDk,hB⟩;replace hS:=hS.next hDk hB;(try(replace kb:=kb.but hB nbd));refine hK _ _ (But.more hB (by simp)) ?_;clear hK hx;intro hx;refine jp ?_;refine jTT (fun K hK=> ?_);have hcy:=Ext.cell hy;have hfy:=Ext.froz hy;(obtain⟨_,_,_,kq',_⟩:=hS.kq);have cq:=kq'.cell;have fq:=kq'.froz;go_simp;refine hK _ jB ?_;clear hK;intro hr;replace hS:=hS.store 1 x1;replace hx:=hx.trans hr;clear hr;first|refine jTB hx ?_|refine jTS ?_
     refine jTT (fun K hK=> ?_);have hcy:=Ext.cell hy;have hfy:=Ext.froz hy;(obtain⟨_,_,_,kq',_⟩:=hS.kq);have cq:=kq'.cell;have fq:=kq'.froz;go_simp;refine hK _ jB ?_;clear hK;intro hr;replace hS:=hS.store 2 x3;replace hx:=hx.trans hr;clear hr;refine zi ?_;rotate_left;refine jCB hx (fun K hK=> ?_);go_simp;go_at_call 17;refine(zG d _ _ hS.dk (by omega) (by omega)).mono ?_;rintro e w1 ⟨x2,rfl,hy0,hy1,hDk,hB⟩;replace hS:=hS.next hDk hB;(try(replace kb:=kb.but hB nbd));(obtain⟨i2,rfl⟩: ∃i2:Nat,x2=i2:=⟨x2.toNat,by omega⟩);have hi4:i2<4:=(by omega);have hi4':(i2:Int)<4:=(by omega);refine hK _ _ (But.more hB (by simp)) ?_;clear hK hx;intro hx;refine jp ?_;refine jTC (fun K hK=> ?_);have hcy:=Ext.cell hy;have hfy:=Ext.froz hy;go_simp;first|refine hK _ _ jB ?_|refine hK undef _ jB ?_
     clear hK;intro hr;have kb:=jU hr;(obtain⟨_,_,_,kq',_⟩:=hS.kq);have lq:=kq'.lt;replace hS:=hS.ext (Ext.alloc (Ext.refl _) (.cells zje.toArray 3));have nbd:=zh3 (zb5 hS.dk kb (by decide));replace hx:=hx.trans hr;clear hr;refine jp ?_;first|refine jTB hx ?_|refine jTS ?_
     (obtain⟨y,hsz,hs1,hs17⟩:=zcl i2 hi4);have cy:=(kb.cell i2).trans hsz;have ly:=kb.lt;(obtain⟨_,_,_,kq',_⟩:=hS.kq);have nb1:=kb.ne_ kq' (by decide);have nb2:=zb5 hS.dk kb (by decide);(first|(replace cy:w1.cell? ⟨W9.heap.size,i2,none⟩=some (.int .i64 y):=cy;replace nb1:W9.heap.size≠q:=nb1;replace nb2:W9.heap.size≠d:=nb2;replace ly:W9.heap.size<w1.heap.size:=ly)|skip);first|refine jTB (But.refl _ _) ?_|refine jTS ?_
     refine jCB hx (fun K hK=> ?_);go_simp;go_at_call 17;refine(zG d _ _ hS.dk (by omega) (by omega)).mono ?_;rintro e w1 ⟨x3,rfl,hy0,hy1,hDk,hB⟩;replace hS:=hS.next hDk hB;(try(replace kb:=kb.but hB nbd));refine hK _ _ (But.more hB (by simp)) ?_;clear hK hx;intro hx;refine jp ?_;refine jTT (fun K hK=> ?_);have hcy:=Ext.cell hy;have hfy:=Ext.froz hy;(obtain⟨_,_,_,kq',_⟩:=hS.kq);have cq:=kq'.cell;have fq:=kq'.froz;go_simp;refine hK _ jB ?_;clear hK;intro hr;replace hS:=hS.store 1 x1;replace hx:=hx.trans hr;clear hr;first|refine jTB hx ?_|refine jTS ?_
     refine jTT (fun K hK=> ?_);have hcy:=Ext.cell hy;have hfy:=Ext.froz hy;(obtain⟨_,_,_,kq',_⟩:=hS.kq);have cq:=kq'.cell;have fq:=kq'.froz;go_simp;refine hK _ jB ?_;clear hK;intro hr;replace hS:=hS.store 2 x3;replace hx:=hx.trans hr;clear hr;refine zi ?_;rotate_left;refine jTC (fun K hK=> ?_);have hcy:=Ext.cell hy;have hfy:=Ext.froz hy;go_simp;first|refine hK _ _ jB ?_|refine hK undef _ jB ?_
     clear hK;intro hr;have kb:=jU hr;(obtain⟨_,_,_,kq',_⟩:=hS.kq);have lq:=kq'.lt;replace hS:=hS.ext (Ext.alloc (Ext.refl _) (.cells zje.toArray 3));have nbd:=zh3 (zb5 hS.dk kb (by decide));replace hx:=hx.trans hr;clear hr;refine jp ?_;refine jCB hx (fun K hK=> ?_);go_simp;go_at_call 17;refine(zG d _ _ hS.dk (by omega) (by omega)).mono ?_;rintro e w1 ⟨x1,rfl,hy0,hy1,hDk,hB⟩;replace hS:=hS.next hDk hB;(try(replace kb:=kb.but hB nbd));refine hK _ _ (But.more hB (by simp)) ?_;clear hK hx;intro hx;refine jp ?_;first|refine jTB hx ?_|refine jTS ?_
     refine jCB hx (fun K hK=> ?_);go_simp;go_at_call 17;refine(zG d _ _ hS.dk (by omega) (by omega)).mono ?_;rintro e w1 ⟨x2,rfl,hy0,hy1,hDk,hB⟩;replace hS:=hS.next hDk hB;(try(replace kb:=kb.but hB nbd));(obtain⟨i2,rfl⟩: ∃i2:Nat,x2=i2:=⟨x2.toNat,by omega⟩);have hi4:i2<4:=(by omega);have hi4':(i2:Int)<4:=(by omega);refine hK _ _ (But.more hB (by simp)) ?_;clear hK hx;intro hx;refine jp ?_;first|refine jTB hx ?_|refine jTS ?_
     (obtain⟨y,hsz,hs1,hs17⟩:=zcl i2 hi4);have cy:=(kb.cell i2).trans hsz;have ly:=kb.lt;(obtain⟨_,_,_,kq',_⟩:=hS.kq);have nb1:=kb.ne_ kq' (by decide);have nb2:=zb5 hS.dk kb (by decide);(first|(replace cy:w1.cell? ⟨W9.heap.size,i2,none⟩=some (.int .i64 y):=cy;replace nb1:W9.heap.size≠q:=nb1;replace nb2:W9.heap.size≠d:=nb2;replace ly:W9.heap.size<w1.heap.size:=ly)|skip);first|refine jTB (But.refl _ _) ?_|refine jTS ?_
     refine jCB hx (fun K hK=> ?_);go_simp;go_at_call 17;refine(zG d _ _ hS.dk (by omega) (by omega)).mono ?_;rintro e w1 ⟨x3,rfl,hy0,hy1,hDk,hB⟩;replace hS:=hS.next hDk hB;(try(replace kb:=kb.but hB nbd));refine hK _ _ (But.more hB (by simp)) ?_;clear hK hx;intro hx;refine jp ?_;refine jTT (fun K hK=> ?_);have hcy:=Ext.cell hy;have hfy:=Ext.froz hy;(obtain⟨_,_,_,kq',_⟩:=hS.kq);have cq:=kq'.cell;have fq:=kq'.froz;go_simp;refine hK _ jB ?_;clear hK;intro hr;replace hS:=hS.store 1 x1;replace hx:=hx.trans hr;clear hr;first|refine jTB hx ?_|refine jTS ?_
     refine jTT (fun K hK=> ?_);have hcy:=Ext.cell hy;have hfy:=Ext.froz hy;(obtain⟨_,_,_,kq',_⟩:=hS.kq);have cq:=kq'.cell;have fq:=kq'.froz;go_simp;refine hK _ jB ?_;clear hK;intro hr;replace hS:=hS.store 2 x3;replace hx:=hx.trans hr;clear hr;refine zi ?_;rotate_left
     all_goals
      obtain⟨f0,f1,f2,f3,kf,hf⟩: ∃f0 f1 f2 f3:Int,Blk _ q 65 #[.int .i64 f0,.int .i64 f1,.int .i64 f2,.int .i64 f3]∧(f0=1->0<=f1∧f1<=15∧0<=f2∧f2<=32):=⟨_,hS.kq⟩;have cf:=kf.cell;have cr:=hS.kr.cell;have fr:=hS.kr.froz;have hq3:=hS.hq;have nqr:q≠w.heap.size+1+1:=by omega
      have nrq:w.heap.size+1+1≠q:=by omega
      obtain⟨e1,e2,e3⟩:=hS.fin (.int .i64 f0) (.int .i64 f1) (.int .i64 f2) (.int .i64 f3);go_wp2;exact bodyPost_ret (v:= .agg #[.int .i64 f0,.int .i64 f1,.int .i64 f2,.int .i64 f3]) (by simp[results,Tryz.results19,go_sem,e3]) rfl ⟨f0,f1,f2,f3,rfl,hf,e1,e2⟩
    have z1:(z==1)=false:=by simpa using c1
    by_cases c2:z=2
    ·subst c2
     go_upto_region 17 with fail;replace hS:=hS.ext (Ext.drew (Ext.refl _));refine zM [d,q] (.take 0 (.take 2 (.alt 1 (.take 4 (.alt 3 (.alt 5 (.take 6 (.alt 7 .done .none)) .none) .none)) .none))) Tryz.mixed (by kernel_rfl) ?_;intro hx hy;iterate 2 (first|refine jTB hx ?_|refine jTS ?_)
     refine jCB hx (fun K hK=> ?_);go_simp;go_at_call 30;refine(yX w.heap.size (w.heap.size+1+1+1) d zl.length dd B zl _ hS.ku hS.kd hS.dk hS.rd (fun h0 ad ha=>by have:=(hS.hU h0 ad ha).1;omega) (by omega) (by omega) (by omega)).mono ?_;rintro e w1 ⟨x1,rfl,hDk,hB⟩;replace hS:=hS.next hDk hB;refine hK _ _ (But.more hB (by simp)) ?_;clear hK hx;intro hx;refine jp ?_;first|refine jTB hx ?_|refine jTS ?_
     refine jCB hx (fun K hK=> ?_);go_simp;go_at_call 17;refine(zG d _ _ hS.dk (by omega) (by omega)).mono ?_;rintro e w1 ⟨x2,rfl,hy0,hy1,hDk,hB⟩;replace hS:=hS.next hDk hB;refine hK _ _ (But.more hB (by simp)) ?_;clear hK hx;intro hx;refine jp ?_;refine jTT (fun K hK=> ?_);have hcy:=Ext.cell hy;have hfy:=Ext.froz hy;(obtain⟨_,_,_,kq',_⟩:=hS.kq);have cq:=kq'.cell;have fq:=kq'.froz;go_simp;refine hK _ jB ?_;clear hK;intro hr;replace hS:=hS.store 1 x1;replace hx:=hx.trans hr;clear hr;first|refine jTB hx ?_|refine jTS ?_
     refine jTT (fun K hK=> ?_);have hcy:=Ext.cell hy;have hfy:=Ext.froz hy;(obtain⟨_,_,_,kq',_⟩:=hS.kq);have cq:=kq'.cell;have fq:=kq'.froz;go_simp;refine hK _ jB ?_;clear hK;intro hr;replace hS:=hS.store 2 x2;replace hx:=hx.trans hr;clear hr;refine zi ?_;obtain⟨f0,f1,f2,f3,kf,hf⟩: ∃f0 f1 f2 f3:Int,Blk _ q 65 #[.int .i64 f0,.int .i64 f1,.int .i64 f2,.int .i64 f3]∧(f0=1->0<=f1∧f1<=15∧0<=f2∧f2<=32):=⟨_,hS.kq⟩;have cf:=kf.cell;have cr:=hS.kr.cell;have fr:=hS.kr.froz;have hq3:=hS.hq;have nqr:q≠w.heap.size+1+1:=by omega
     have nrq:w.heap.size+1+1≠q:=by omega
     obtain⟨e1,e2,e3⟩:=hS.fin (.int .i64 f0) (.int .i64 f1) (.int .i64 f2) (.int .i64 f3);go_wp2;exact bodyPost_ret (v:= .agg #[.int .i64 f0,.int .i64 f1,.int .i64 f2,.int .i64 f3]) (by simp[results,Tryz.results19,go_sem,e3]) rfl ⟨f0,f1,f2,f3,rfl,hf,e1,e2⟩
    have z2:(z==2)=false:=by simpa using c2
    by_cases c4:z=4
    ·subst c4
     go_upto_region 17 with fail;replace hS:=hS.ext (Ext.drew (Ext.refl _));refine zM [d,q] (.take 0 (.take 2 (.alt 1 (.take 4 (.alt 3 (.alt 5 (.take 6 (.alt 7 .done .none)) .none) .none)) .none))) Tryz.mixed (by kernel_rfl) ?_;intro hx hy;iterate 2 (first|refine jTB hx ?_|refine jTS ?_)
     refine jCB hx (fun K hK=> ?_);go_simp;go_at_call 30;refine(yX w.heap.size (w.heap.size+1+1+1) d zl.length dd B zl _ hS.ku hS.kd hS.dk hS.rd (fun h0 ad ha=>by have:=(hS.hU h0 ad ha).1;omega) (by omega) (by omega) (by omega)).mono ?_;rintro e w1 ⟨x1,rfl,hDk,hB⟩;replace hS:=hS.next hDk hB;refine hK _ _ (But.more hB (by simp)) ?_;clear hK hx;intro hx;refine jp ?_;first|refine jTB hx ?_|refine jTS ?_
     refine jCB hx (fun K hK=> ?_);go_simp;go_at_call 17;refine(zG d _ _ hS.dk (by omega) (by omega)).mono ?_;rintro e w1 ⟨x2,rfl,hy0,hy1,hDk,hB⟩;replace hS:=hS.next hDk hB;refine hK _ _ (But.more hB (by simp)) ?_;clear hK hx;intro hx;refine jp ?_;refine jTT (fun K hK=> ?_);have hcy:=Ext.cell hy;have hfy:=Ext.froz hy;(obtain⟨_,_,_,kq',_⟩:=hS.kq);have cq:=kq'.cell;have fq:=kq'.froz;go_simp;refine hK _ jB ?_;clear hK;intro hr;replace hS:=hS.store 1 x1;replace hx:=hx.trans hr;clear hr;first|refine jTB hx ?_|refine jTS ?_
     refine jTT (fun K hK=> ?_);have hcy:=Ext.cell hy;have hfy:=Ext.froz hy;(obtain⟨_,_,_,kq',_⟩:=hS.kq);have cq:=kq'.cell;have fq:=kq'.froz;go_simp;refine hK _ jB ?_;clear hK;intro hr;replace hS:=hS.store 2 x2;replace hx:=hx.trans hr;clear hr;refine zi ?_;obtain⟨f0,f1,f2,f3,kf,hf⟩: ∃f0 f1 f2 f3:Int,Blk _ q 65 #[.int .i64 f0,.int .i64 f1,.int .i64 f2,.int .i64 f3]∧(f0=1->0<=f1∧f1<=15∧0<=f2∧f2<=32):=⟨_,hS.kq⟩;have cf:=kf.cell;have cr:=hS.kr.cell;have fr:=hS.kr.froz;have hq3:=hS.hq;have nqr:q≠w.heap.size+1+1:=by omega
     have nrq:w.heap.size+1+1≠q:=by omega
     obtain⟨e1,e2,e3⟩:=hS.fin (.int .i64 f0) (.int .i64 f1) (.int .i64 f2) (.int .i64 f3);go_wp2;exact bodyPost_ret (v:= .agg #[.int .i64 f0,.int .i64 f1,.int .i64 f2,.int .i64 f3]) (by simp[results,Tryz.results19,go_sem,e3]) rfl ⟨f0,f1,f2,f3,rfl,hf,e1,e2⟩
    have z4:(z==4)=false:=by simpa using c4
    by_cases c3:z=3
    ·subst c3
     go_upto_region 19 with fail;replace hS:=hS.ext (Ext.drew (Ext.refl _));refine zM [d,q] (.take 0 (.take 2 (.take 4 (.alt 1 (.take 6 (.alt 3 (.alt 5 (.alt 7 (.take 8 (.alt 9 (.take 10 (.alt 11 .done .none)) .none)) .none) .none) .none)) .none)))) Tryz.mixed (by kernel_rfl) ?_;intro hx hy;iterate 3 (first|refine jTB hx ?_|refine jTS ?_)
     refine jCB hx (fun K hK=> ?_);go_simp;go_at_call 30;refine(yX w.heap.size (w.heap.size+1+1+1) d zl.length dd B zl _ hS.ku hS.kd hS.dk hS.rd (fun h0 ad ha=>by have:=(hS.hU h0 ad ha).1;omega) (by omega) (by omega) (by omega)).mono ?_;rintro e w1 ⟨x1,rfl,hDk,hB⟩;replace hS:=hS.next hDk hB;refine hK _ _ (But.more hB (by simp)) ?_;clear hK hx;intro hx;refine jp ?_;first|refine jTB hx ?_|refine jTS ?_
     refine jCB hx (fun K hK=> ?_);go_simp;go_at_call 17;refine(zG d _ _ hS.dk (by omega) (by omega)).mono ?_;rintro e w1 ⟨x2,rfl,hy0,hy1,hDk,hB⟩;replace hS:=hS.next hDk hB;refine hK _ _ (But.more hB (by simp)) ?_;clear hK hx;intro hx;refine jp ?_;refine jCB hx (fun K hK=> ?_);go_simp;go_at_call 30;refine(yX w.heap.size (w.heap.size+1+1+1) d zl.length dd B zl _ hS.ku hS.kd hS.dk hS.rd (fun h0 ad ha=>by have:=(hS.hU h0 ad ha).1;omega) (by omega) (by omega) (by omega)).mono ?_;rintro e w1 ⟨x3,rfl,hDk,hB⟩;replace hS:=hS.next hDk hB;refine hK _ _ (But.more hB (by simp)) ?_;clear hK hx;intro hx;refine jp ?_;refine jTT (fun K hK=> ?_);have hcy:=Ext.cell hy;have hfy:=Ext.froz hy;(obtain⟨_,_,_,kq',_⟩:=hS.kq);have cq:=kq'.cell;have fq:=kq'.froz;go_simp;refine hK _ jB ?_;clear hK;intro hr;replace hS:=hS.store 1 x1;replace hx:=hx.trans hr;clear hr;first|refine jTB hx ?_|refine jTS ?_
     refine jTT (fun K hK=> ?_);have hcy:=Ext.cell hy;have hfy:=Ext.froz hy;(obtain⟨_,_,_,kq',_⟩:=hS.kq);have cq:=kq'.cell;have fq:=kq'.froz;go_simp;refine hK _ jB ?_;clear hK;intro hr;replace hS:=hS.store 2 x2;replace hx:=hx.trans hr;clear hr;first|refine jTB hx ?_|refine jTS ?_
     refine jTT (fun K hK=> ?_);have hcy:=Ext.cell hy;have hfy:=Ext.froz hy;(obtain⟨_,_,_,kq',_⟩:=hS.kq);have cq:=kq'.cell;have fq:=kq'.froz;go_simp;refine hK _ jB ?_;clear hK;intro hr;replace hS:=hS.store 3 x3;replace hx:=hx.trans hr;clear hr;refine zi ?_;obtain⟨f0,f1,f2,f3,kf,hf⟩: ∃f0 f1 f2 f3:Int,Blk _ q 65 #[.int .i64 f0,.int .i64 f1,.int .i64 f2,.int .i64 f3]∧(f0=1->0<=f1∧f1<=15∧0<=f2∧f2<=32):=⟨_,hS.kq⟩;have cf:=kf.cell;have cr:=hS.kr.cell;have fr:=hS.kr.froz;have hq3:=hS.hq;have nqr:q≠w.heap.size+1+1:=by omega
     have nrq:w.heap.size+1+1≠q:=by omega
     obtain⟨e1,e2,e3⟩:=hS.fin (.int .i64 f0) (.int .i64 f1) (.int .i64 f2) (.int .i64 f3);go_wp2;exact bodyPost_ret (v:= .agg #[.int .i64 f0,.int .i64 f1,.int .i64 f2,.int .i64 f3]) (by simp[results,Tryz.results19,go_sem,e3]) rfl ⟨f0,f1,f2,f3,rfl,hf,e1,e2⟩
    have z3:(z==3)=false:=by simpa using c3
    by_cases c5:z=5
    ·subst c5
     go_upto_region 21 with fail;replace hS:=hS.ext (Ext.drew (Ext.refl _));refine zM [d,q] (.take 0 (.take 2 (.take 4 (.alt 1 (.take 6 (.alt 3 (.alt 5 (.alt 7 (.take 8 (.alt 9 (.take 10 (.alt 11 .done .none)) .none)) .none) .none) .none)) .none)))) Tryz.mixed (by kernel_rfl) ?_;intro hx hy;iterate 3 (first|refine jTB hx ?_|refine jTS ?_)
     refine jCB hx (fun K hK=> ?_);go_simp;go_at_call 30;refine(yX w.heap.size (w.heap.size+1+1+1) d zl.length dd B zl _ hS.ku hS.kd hS.dk hS.rd (fun h0 ad ha=>by have:=(hS.hU h0 ad ha).1;omega) (by omega) (by omega) (by omega)).mono ?_;rintro e w1 ⟨x1,rfl,hDk,hB⟩;replace hS:=hS.next hDk hB;refine hK _ _ (But.more hB (by simp)) ?_;clear hK hx;intro hx;refine jp ?_;first|refine jTB hx ?_|refine jTS ?_
     refine jCB hx (fun K hK=> ?_);go_simp;go_at_call 17;refine(zG d _ _ hS.dk (by omega) (by omega)).mono ?_;rintro e w1 ⟨x2,rfl,hy0,hy1,hDk,hB⟩;replace hS:=hS.next hDk hB;refine hK _ _ (But.more hB (by simp)) ?_;clear hK hx;intro hx;refine jp ?_;refine jCB hx (fun K hK=> ?_);go_simp;go_at_call 17;refine(zG d _ _ hS.dk (by omega) (by omega)).mono ?_;rintro e w1 ⟨x3,rfl,hy0,hy1,hDk,hB⟩;replace hS:=hS.next hDk hB;refine hK _ _ (But.more hB (by simp)) ?_;clear hK hx;intro hx;refine jp ?_;refine jTT (fun K hK=> ?_);have hcy:=Ext.cell hy;have hfy:=Ext.froz hy;(obtain⟨_,_,_,kq',_⟩:=hS.kq);have cq:=kq'.cell;have fq:=kq'.froz;go_simp;refine hK _ jB ?_;clear hK;intro hr;replace hS:=hS.store 1 x1;replace hx:=hx.trans hr;clear hr;first|refine jTB hx ?_|refine jTS ?_
     refine jTT (fun K hK=> ?_);have hcy:=Ext.cell hy;have hfy:=Ext.froz hy;(obtain⟨_,_,_,kq',_⟩:=hS.kq);have cq:=kq'.cell;have fq:=kq'.froz;go_simp;refine hK _ jB ?_;clear hK;intro hr;replace hS:=hS.store 2 x2;replace hx:=hx.trans hr;clear hr;first|refine jTB hx ?_|refine jTS ?_
     refine jTT (fun K hK=> ?_);have hcy:=Ext.cell hy;have hfy:=Ext.froz hy;(obtain⟨_,_,_,kq',_⟩:=hS.kq);have cq:=kq'.cell;have fq:=kq'.froz;go_simp;refine hK _ jB ?_;clear hK;intro hr;replace hS:=hS.store 3 x3;replace hx:=hx.trans hr;clear hr;refine zi ?_;obtain⟨f0,f1,f2,f3,kf,hf⟩: ∃f0 f1 f2 f3:Int,Blk _ q 65 #[.int .i64 f0,.int .i64 f1,.int .i64 f2,.int .i64 f3]∧(f0=1->0<=f1∧f1<=15∧0<=f2∧f2<=32):=⟨_,hS.kq⟩;have cf:=kf.cell;have cr:=hS.kr.cell;have fr:=hS.kr.froz;have hq3:=hS.hq;have nqr:q≠w.heap.size+1+1:=by omega
     have nrq:w.heap.size+1+1≠q:=by omega
     obtain⟨e1,e2,e3⟩:=hS.fin (.int .i64 f0) (.int .i64 f1) (.int .i64 f2) (.int .i64 f3);go_wp2;exact bodyPost_ret (v:= .agg #[.int .i64 f0,.int .i64 f1,.int .i64 f2,.int .i64 f3]) (by simp[results,Tryz.results19,go_sem,e3]) rfl ⟨f0,f1,f2,f3,rfl,hf,e1,e2⟩
    have z5:(z==5)=false:=by simpa using c5
    by_cases c6:z=6
    ·subst c6
     have one:True:=trivial;go_upto_region 27 with(first|(go_at_call 30;refine(yX w.heap.size (w.heap.size+1+1+1) d zl.length dd B zl _ hS.ku hS.kd hS.dk hS.rd (fun h0 ad ha=>by have:=(hS.hU h0 ad ha).1;omega) (by omega) (by omega) (by omega)).mono ?_;rintro e w1 ⟨x1,rfl,hDk,hB⟩;replace hS:=hS.next hDk hB;(obtain⟨_,_,_,kq',_⟩:=hS.kq);have cq:=kq'.cell;have fq:=kq'.froz;(first|(clear one;obtain⟨xa,rfl⟩: ∃y,y=x1:=⟨_,rfl⟩)|(obtain⟨xb,rfl⟩: ∃y,y=x1:=⟨_,rfl⟩))));replace hS:=(hS.store 1 xa).store 2 xb;obtain⟨f0,f1,f2,f3,kf,hf⟩: ∃f0 f1 f2 f3:Int,Blk _ q 65 #[.int .i64 f0,.int .i64 f1,.int .i64 f2,.int .i64 f3]∧(f0=1->0<=f1∧f1<=15∧0<=f2∧f2<=32):=⟨_,hS.kq⟩;have cf:=kf.cell;have cr:=hS.kr.cell;have fr:=hS.kr.froz;have hq3:=hS.hq;have nqr:q≠w.heap.size+1+1:=by omega
     have nrq:w.heap.size+1+1≠q:=by omega
     obtain⟨e1,e2,e3⟩:=hS.fin (.int .i64 f0) (.int .i64 f1) (.int .i64 f2) (.int .i64 f3);go_wp2;exact bodyPost_ret (v:= .agg #[.int .i64 f0,.int .i64 f1,.int .i64 f2,.int .i64 f3]) (by simp[results,Tryz.results19,go_sem,e3]) rfl ⟨f0,f1,f2,f3,rfl,hf,e1,e2⟩
    have z6:(z==6)=false:=by simpa using c6
    by_cases c7:z=7
    ·subst c7
     have one:True:=trivial;go_upto_region 27 with(first|(go_at_call 30;refine(yX w.heap.size (w.heap.size+1+1+1) d zl.length dd B zl _ hS.ku hS.kd hS.dk hS.rd (fun h0 ad ha=>by have:=(hS.hU h0 ad ha).1;omega) (by omega) (by omega) (by omega)).mono ?_;rintro e w1 ⟨x1,rfl,hDk,hB⟩;replace hS:=hS.next hDk hB;(obtain⟨_,_,_,kq',_⟩:=hS.kq);have cq:=kq'.cell;have fq:=kq'.froz;(first|(clear one;obtain⟨xa,rfl⟩: ∃y,y=x1:=⟨_,rfl⟩)|(obtain⟨xb,rfl⟩: ∃y,y=x1:=⟨_,rfl⟩))));replace hS:=hS.store 1 xa;obtain⟨f0,f1,f2,f3,kf,hf⟩: ∃f0 f1 f2 f3:Int,Blk _ q 65 #[.int .i64 f0,.int .i64 f1,.int .i64 f2,.int .i64 f3]∧(f0=1->0<=f1∧f1<=15∧0<=f2∧f2<=32):=⟨_,hS.kq⟩;have cf:=kf.cell;have cr:=hS.kr.cell;have fr:=hS.kr.froz;have hq3:=hS.hq;have nqr:q≠w.heap.size+1+1:=by omega
     have nrq:w.heap.size+1+1≠q:=by omega
     obtain⟨e1,e2,e3⟩:=hS.fin (.int .i64 f0) (.int .i64 f1) (.int .i64 f2) (.int .i64 f3);go_wp2;exact bodyPost_ret (v:= .agg #[.int .i64 f0,.int .i64 f1,.int .i64 f2,.int .i64 f3]) (by simp[results,Tryz.results19,go_sem,e3]) rfl ⟨f0,f1,f2,f3,rfl,hf,e1,e2⟩
    have z7:(z==7)=false:=by simpa using c7
    by_cases c9:z=9
    ·subst c9
     have one:True:=trivial;go_upto_region 27 with(first|(go_at_call 30;refine(yX w.heap.size (w.heap.size+1+1+1) d zl.length dd B zl _ hS.ku hS.kd hS.dk hS.rd (fun h0 ad ha=>by have:=(hS.hU h0 ad ha).1;omega) (by omega) (by omega) (by omega)).mono ?_;rintro e w1 ⟨x1,rfl,hDk,hB⟩;replace hS:=hS.next hDk hB;(obtain⟨_,_,_,kq',_⟩:=hS.kq);have cq:=kq'.cell;have fq:=kq'.froz;(first|(clear one;obtain⟨xa,rfl⟩: ∃y,y=x1:=⟨_,rfl⟩)|(obtain⟨xb,rfl⟩: ∃y,y=x1:=⟨_,rfl⟩))));replace hS:=hS.store 1 xa;obtain⟨f0,f1,f2,f3,kf,hf⟩: ∃f0 f1 f2 f3:Int,Blk _ q 65 #[.int .i64 f0,.int .i64 f1,.int .i64 f2,.int .i64 f3]∧(f0=1->0<=f1∧f1<=15∧0<=f2∧f2<=32):=⟨_,hS.kq⟩;have cf:=kf.cell;have cr:=hS.kr.cell;have fr:=hS.kr.froz;have hq3:=hS.hq;have nqr:q≠w.heap.size+1+1:=by omega
     have nrq:w.heap.size+1+1≠q:=by omega
     obtain⟨e1,e2,e3⟩:=hS.fin (.int .i64 f0) (.int .i64 f1) (.int .i64 f2) (.int .i64 f3);go_wp2;exact bodyPost_ret (v:= .agg #[.int .i64 f0,.int .i64 f1,.int .i64 f2,.int .i64 f3]) (by simp[results,Tryz.results19,go_sem,e3]) rfl ⟨f0,f1,f2,f3,rfl,hf,e1,e2⟩
    have z9:(z==9)=false:=by simpa using c9
    go_upto_region 27 with fail;clear kq mq;obtain⟨f0,f1,f2,f3,kf,hf⟩: ∃f0 f1 f2 f3:Int,Blk _ q 65 #[.int .i64 f0,.int .i64 f1,.int .i64 f2,.int .i64 f3]∧(f0=1->0<=f1∧f1<=15∧0<=f2∧f2<=32):=⟨_,hS.kq⟩;have cf:=kf.cell;have cr:=hS.kr.cell;have fr:=hS.kr.froz;have hq3:=hS.hq;have nqr:q≠w.heap.size+1+1:=by omega
    have nrq:w.heap.size+1+1≠q:=by omega
    obtain⟨e1,e2,e3⟩:=hS.fin (.int .i64 f0) (.int .i64 f1) (.int .i64 f2) (.int .i64 f3);go_wp2;exact bodyPost_ret (v:= .agg #[.int .i64 f0,.int .i64 f1,.int .i64 f2,.int .i64 f3]) (by simp[results,Tryz.results19,go_sem,e3]) rfl ⟨f0,f1,f2,f3,rfl,hf,e1,e2⟩
end Go.Proofs.YtopcdfbplknmlaaGreat.Mo
