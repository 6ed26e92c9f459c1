/- The walk of make.Config. Conditions: the ranges that each theorem states. -/
import Derived.Test.YtopcdfbplknmlaaGreatL
import Derived.Test.YtopcdfbplknmlaaGreatG20
set_option linter.all false
set_option maxHeartbeats 40000000
set_option maxRecDepth 100000
namespace Go.Proofs.YtopcdfbplknmlaaGreat
open Go.RowKit Go.Draw
def znp:ByteArray:=⟨#[111,119,110]⟩
theorem znq:qF znp:=by refine⟨by decide,by decide,?_⟩;decide
theorem zht{Q:Ending->World->Prop}{a:Act}{W:World}{g1:Nat}{v0 v1 v2:Value}(hd:a.defers= [])(h2:a.tmps[2]?.getD undef= .pointer (some ⟨g1,0,none⟩))
 (k1:Blk W g1 25 #[v0,v1,v2]) (hQ:Q (.returned (.agg #[v0,v1,v2])) W):bodyPost Tryz.prog Tryz.f10 Q Exit.ret a W:=by
 have c1:=k1.cell;exact bodyPost_ret (v:= .agg #[v0,v1,v2]) (by simp[results,Tryz.results10,go_sem,h2,c1]) hd hQ
theorem jS{w W:World}{d b2:Nat}{C:Cfg}{A:Option Addr}{c base:Nat}{a:Act}{z0 z1 z2:Value}(hC:C.Ok)(k2:Blk W b2 25 #[z0,z1,z2])(hb:w.heap.size<=b2)(hdl:d<w.heap.size)(hR:W.ownsRow base 79 4 (.slice A C.l.length c) C.l.length (y2 C.l))(hbase:w.heap.size<=base)(hD:Dk W d)(hB:But [d] w W)
 (hd:a.defers= []) (h2:a.tmps[2]?.getD undef= .pointer (some ⟨b2,0,none⟩)):bodyPost Tryz.prog Tryz.f10 (zjc w d) Exit.ret a (((W.setCell ⟨b2,0,none⟩ (.string C.s)).setCell ⟨b2,1,none⟩ (.slice A C.l.length c)).setCell ⟨b2,2,none⟩ (.int .i64 C.f)):=by
 have e:But [b2] W (((W.setCell ⟨b2,0,none⟩ (.string C.s)).setCell ⟨b2,1,none⟩ (.slice A C.l.length c)).setCell ⟨b2,2,none⟩ (.int .i64 C.f)):=But.setCell (But.setCell (But.setCell (But.refl _ _) (by simp) _) (by simp) _) (by simp) _;exact zht hd h2 (((k2.set_ 0 _).set_ 1 _).set_ 2 _) ⟨C,A,c,rfl,hC,zu (ye hR k2 e (by decide)) hbase,hD.but e (fun x hx=>by have:=List.mem_singleton.1 hx;omega),But.fresh (But.fresh (But.fresh hB hb _) hb _) hb _⟩
theorem zdj{l:List (Nat×Int×Int×Int)}{n:Nat}(h: ∀(j:Nat) (r:Nat×Int×Int×Int),l[j]? =some r->j+1<n->r.2.2.2=((j+1:Nat):Int))(hl:l.length=n): ∀k j,j<n->(j=0∨j<=k) ->jn l n k j=true
 |0,j,_,hj=>by
  have:j=0:=by omega
  subst this;rfl
 |k+1,j,hjn,hj=>by
  unfold jn;rw[Bool.or_eq_true];by_cases hk:j=0∨j<=k
  ·exact .inl (zdj h hl k j hjn hk)
  ·right
   have e:j=k+1:=by omega
   subst e;have hkl:k<l.length:=by omega
   have h1:=h k (l[k]) (List.getElem?_eq_getElem hkl) hjn;rw[Bool.and_eq_true];refine⟨by simpa using hjn,?_⟩;rw[List.getElem?_eq_getElem hkl,Option.map_some,h1];simp
structure OwnR(l:List (Nat×Int×Int×Int))(n k:Nat)(f:Int):Prop where
 len:l.length=k
 ok: ∀j r,l[j]? =some r->zg8 n j r
 tg: ∀(j:Nat) (r:Nat×Int×Int×Int),l[j]? =some r->j+1<n->r.2.2.2=((j+1:Nat):Int)
 f0:k<n->f=0
 last:k=n-> ∃z,zbv l n z f
theorem OwnR.start(n:Nat)(hn:1<=n):OwnR [] n 0 0:=⟨rfl,fun j r h=>by simp at h,fun j r h=>by simp at h,fun _=>rfl,fun h=>by omega⟩
theorem OwnR.step{l:List (Nat×Int×Int×Int)}{n k:Nat}{f f':Int}{x:Nat}{li ba tg:Int}(h:OwnR l n k f)(hk:k<n)(hx:okX x=true)(hli:0<=li∧li<=2)(hba:0<=ba∧ba<=2)
 (h1:k+1<n->tg=((k+1:Nat):Int)∧f'=0) (h2:k+1=n->li=0∧tg=(k:Int)∧∃z,(z=true∧FloatKind.f64.format.order x 0=some .eq∧1<=f'∧f'<=64)∨(z=false∧FloatKind.f64.format.order x 0=some .gt∧f'=0)):OwnR (l++ [(x,li,ba,tg)]) n (k+1) f':=by
 have hl:=h.len
 have cases: ∀(j:Nat) (r:Nat×Int×Int×Int),(l++ [(x,li,ba,tg)])[j]? =some r->l[j]? =some r∨(j=k∧r=(x,li,ba,tg)):=fun j r hj=>by
  rcases Nat.lt_or_ge j l.length with hlt|hge
  ·rw[List.getElem?_append_left hlt]at hj
   exact .inl hj
  ·rw[List.getElem?_append_right hge]at hj
   have:=(List.getElem?_eq_some_iff.1 hj).1;simp at this;have e:j=k:=by omega
   subst e;rw[hl,Nat.sub_self]at hj;simp at hj;exact .inr ⟨rfl,hj.symm⟩
 refine⟨by simp[hl],fun j r hj=> ?_,fun j r hj hjn=> ?_,fun hk'=>(h1 hk').2,fun hk'=> ?_⟩
 ·rcases cases j r hj with hj|⟨rfl,rfl⟩
  ·exact h.ok j r hj
  ·refine⟨hx,hli.1,by show li<=64;omega,hba.1,by show ba<=64;omega,fun e=>⟨(h2 e).1,(h2 e).2.1⟩,fun e=> ?_⟩
   have:=(h1 (by omega)).1;show(j:Int)<tg∧tg<n;omega
 ·rcases cases j r hj with hj|⟨rfl,rfl⟩
  ·exact h.tg j r hj hjn
  ·exact(h1 hjn).1
 ·obtain⟨_,_,z,hz⟩:=h2 hk'
  refine⟨z,(x,li,ba,tg),?_,hz⟩;rw[show n-1=l.length by omega,List.getElem?_append_right (Nat.le_refl _),Nat.sub_self];rfl
theorem OwnR.ok_{l:List (Nat×Int×Int×Int)}{n:Nat}{f:Int}(h:OwnR l n n f)(hn:1<=n∧n<=4): ∃z,(⟨znp,l,f,z⟩:Cfg).Ok:=by
 obtain⟨z,hz⟩:=h.last rfl;have hl:=h.len;refine⟨z,znq,⟨rfl,by show 1<=l.length;omega,by show l.length<=4;omega,fun k r hk=> ?_,fun j hj=> ?_⟩,?_⟩
 ·show zg8 l.length k r
  rw[hl];exact h.ok k r hk
 ·show jn l l.length l.length j=true
  have hj':j<l.length:=hj;exact zdj (by rw[hl];exact h.tg) rfl _ j hj' (by omega)
 ·show zbv l l.length z f
  rw[hl];exact hz
theorem zb6: ∀(l:List (Nat×Int×Int×Int)) (r:Nat×Int×Int×Int),y2 (l++ [r])=y2 l++zc4 r
 | [],r=>by simp[y2]
 |a::l,r=>by simp[y2,zb6 l r]
theorem But.freshS{S T:List Nat}{a w w':World}(h:But S a w)(k:But T w w')(hT: ∀x∈T,a.heap.size<=x):But S a w':=
 ⟨k.os.trans h.os,k.tape.trans h.tape,k.output.trans h.output,Nat.le_trans h.size k.size,fun i hi hn=>(k.block i (Nat.lt_of_lt_of_le hi h.size) (fun hm=>by have:=hT _ hm;omega)).trans (h.block i hi hn)⟩
structure OwI(w:World)(d b2 b6 N0:Nat)(k:Nat)(l:List (Nat×Int×Int×Int))(f:Int)(B:Option Addr)(c:Nat)(wr:World):Prop where
 k2:Blk wr b2 25 #[.string ⟨#[]⟩,.slice none 0 0,.int .i64 0]
 k6:Blk wr b6 25 #[.string znp,.slice B k c,.int .i64 f]
 row:wr.ownsRow N0 79 4 (.slice B k c) k (y2 l)
 dk:Dk wr d
 but:But [d] w wr
structure OwX(w:World)(d b2 b6 N0:Nat)(k:Nat)(l:List (Nat×Int×Int×Int))(f:Int)(B:Option Addr)(c:Nat)(bT x:Nat)(li ba tg:Int)(wr:World):Prop where
 i:OwI w d b2 b6 N0 k l f B c wr
 kT:Blk wr bT 79 #[.float .f64 x,.int .i64 li,.int .i64 ba,.int .i64 tg]
 lo:N0<=bT
 ap: ∀g,(Value.slice B k c).ownBlock=some g->g≠bT
section
variable{w wr w':World} {d b2 b6 N0 k:Nat} {l:List (Nat×Int×Int×Int)} {f:Int} {B:Option Addr} {c bT x:Nat} {li ba tg:Int}
theorem OwI.next(h:OwI w d b2 b6 N0 k l f B c wr)(hB:But [d] wr w')(hD:Dk w' d)(hd:d<N0):OwI w d b2 b6 N0 k l f B c w':=
 ⟨qB hB h.dk h.k2 (by decide),qB hB h.dk h.k6 (by decide),zo h.row hB (fun b hb hm=>by have:=(World.ownsRow.lt h.row b hb).1;have:=List.mem_singleton.1 hm;omega),hD,h.but.trans hB⟩
theorem OwI.ext(h:OwI w d b2 b6 N0 k l f B c wr)(hE:Ext wr w'):OwI w d b2 b6 N0 k l f B c w':=
 ⟨h.k2.ext hE,h.k6.ext hE,zm h.row hE,h.dk.ext hE,h.but.trans (hE.but _)⟩
theorem OwI.setF(h:OwI w d b2 b6 N0 k l f B c wr)(hb:d<w.heap.size∧w.heap.size<=b2∧b2<b6∧b6<N0)(f':Int):OwI w d b2 b6 N0 k l f' B c (wr.setCell ⟨b6,2,none⟩ (.int .i64 f')):=by
 have e:But [b6] wr (wr.setCell ⟨b6,2,none⟩ (.int .i64 f')):=But.setCell (But.refl _ _) (by simp) _;exact⟨h.k2.but e (by simp;omega),h.k6.set_ 2 _,ye h.row h.k6 e (by decide),h.dk.but e (fun x hx=>by have:=List.mem_singleton.1 hx;omega),But.fresh h.but (p:=⟨b6,2,none⟩) (by show w.heap.size<=b6;omega) _⟩
theorem OwX.next(h:OwX w d b2 b6 N0 k l f B c bT x li ba tg wr)(hB:But [d] wr w')(hD:Dk w' d)(hd:d<N0):OwX w d b2 b6 N0 k l f B c bT x li ba tg w':=
 ⟨h.i.next hB hD hd,qB hB h.i.dk h.kT (by decide),h.lo,h.ap⟩
theorem OwX.set(h:OwX w d b2 b6 N0 k l f B c bT x li ba tg wr)(hb:d<w.heap.size∧w.heap.size<=b2∧b2<b6∧b6<N0)(i:Nat)(u:Value){x':Nat}{li' ba' tg':Int}(hu:(#[.float .f64 x,.int .i64 li,.int .i64 ba,.int .i64 tg]:Array Value).setIfInBounds i u= #[.float .f64 x',.int .i64 li',.int .i64 ba',.int .i64 tg']):OwX w d b2 b6 N0 k l f B c bT x' li' ba' tg' (wr.setCell ⟨bT,i,none⟩ u):=by
 have hlo:=h.lo;have e:But [bT] wr (wr.setCell ⟨bT,i,none⟩ u):=But.setCell (But.refl _ _) (by simp) _;have kT:=h.kT.set_ i u;rw[hu]at kT;exact⟨⟨h.i.k2.but e (by simp;omega),h.i.k6.but e (by simp;omega),zo h.i.row e (fun g hg hm=>h.ap g hg (List.mem_singleton.1 hm)),h.i.dk.but e (fun x hx=>by have:=List.mem_singleton.1 hx;omega),But.fresh h.i.but (p:=⟨bT,i,none⟩) (by show w.heap.size<=bT;omega) _⟩,kT,h.lo,h.ap⟩
theorem OwX.setF(h:OwX w d b2 b6 N0 k l f B c bT x li ba tg wr)(hb:d<w.heap.size∧w.heap.size<=b2∧b2<b6∧b6<N0)(f':Int):OwX w d b2 b6 N0 k l f' B c bT x li ba tg (wr.setCell ⟨b6,2,none⟩ (.int .i64 f')):=by
 have e:But [b6] wr (wr.setCell ⟨b6,2,none⟩ (.int .i64 f')):=But.setCell (But.refl _ _) (by simp) _;have hlo:=h.lo;exact⟨h.i.setF hb f',h.kT.but e (by simp;omega),h.lo,h.ap⟩
theorem OwI.rule(h:OwI w d b2 b6 N0 k l f B c wr)(hN:N0<=wr.heap.size)(hE:Ext wr w')(kT:Blk w' wr.heap.size 79 #[.float .f64 x,.int .i64 li,.int .i64 ba,.int .i64 tg]):OwX w d b2 b6 N0 k l f B c wr.heap.size x li ba tg w':=
 ⟨h.ext hE,kT,hN,fun g hg e=>by have:=(World.ownsRow.lt h.row g hg).2;omega⟩
theorem OwI.k6a{w2:World}(h:OwI w d b2 b6 N0 k l f B c wr)(hb:d<w.heap.size∧w.heap.size<=b2∧b2<b6∧b6<N0)(hE:Ext wr w')(hg:w'.grownBy w2 (Value.slice B k c).ownBlock):Blk w2 b6 25 #[.string znp,.slice B k c,.int .i64 f]:=
 (h.ext hE).k6.but (zL hg) (fun hm=>by have:=(World.ownsRow.lt h.row b6 (by simpa using hm)).1;omega)
theorem OwI.app{w2:World}{A2:Option Addr}{a2:Nat}{r:Nat×Int×Int×Int}(h:OwI w d b2 b6 N0 k l f B c wr)(hb:d<w.heap.size∧w.heap.size<=b2∧b2<b6∧b6<N0)(hE:Ext wr w')(hg:w'.grownBy w2 (Value.slice B k c).ownBlock)(hr:w2.ownsRow N0 79 4 (.slice A2 (k+1) a2) (k+1) (y2 l++zc4 r)):OwI w d b2 b6 N0 (k+1) (l++ [r]) f A2 a2 (w2.setCell ⟨b6,1,none⟩ (.slice A2 (k+1) a2)):=by
 have hT: ∀x∈(Value.slice B k c).ownBlock.toList,N0<=x:=fun x hx=>(World.ownsRow.lt h.row x (by simpa using hx)).1
 have e:=zL hg;have hI:=h.ext hE;have e6:But [b6] w2 (w2.setCell ⟨b6,1,none⟩ (.slice A2 (k+1) a2)):=But.setCell (But.refl _ _) (by simp) _;have k6:=hI.k6.but e (fun hm=>by have:=hT _ hm;omega);refine⟨(hI.k2.but e (fun hm=>by have:=hT _ hm;omega)).but e6 (by simp;omega),k6.set_ 1 _,?_,(hI.dk.but e (fun x hx=>by have:=hT _ hx;omega)).but e6 (fun x hx=>by have:=List.mem_singleton.1 hx;omega),But.fresh (But.freshS hI.but e (fun x hx=>by have:=hT _ hx;omega)) (p:=⟨b6,1,none⟩) (by show w.heap.size<=b6;omega) _⟩;rw[zb6];exact ye hr k6 e6 (by decide)
end
theorem zhu(d:Nat)(w:World)(hD:Dk w d):Calls Tryz.prog 10 #[.pointer (some ⟨d,0,none⟩)] w (zjc w d):=by
 go_enter Tryz.func10,Tryz.ntmps10;go_upto_region 1 with fail;refine yN (fun W k2 hE0=> ?_);obtain⟨b2,hb2⟩: ∃b,w.heap.size=b:=⟨_,rfl⟩;rw[hb2]at k2|-;have Hb2:=Lib.hid hb2;clear hb2;have hDW:=hD.ext hE0;go_wp2_with fail;go_at_call 17;refine(zG d 3 W hDW (by omega) (by omega)).mono ?_;rintro e w1 ⟨x,rfl,hx,hDk,hB1⟩;by_cases h0:0<x
 ·have q1:decide ((0:Int)<(x:Int))=true:=by simp;omega
  have q1':decide (0<x)=true:=by simp;omega
  go_upto_region 2 with fail;go_cut [3] (fun s3 wx=> ∃(bC:Nat) (s:ByteArray) (k:Nat) (A:Option Addr) (c:Nat),s3= .pointer (some ⟨bC,0,none⟩)∧s∈six∧1<=k∧k<=100∧Blk wx bC 25 #[.string (yY s k).1,.slice A (yY s k).2.1.length c,.int .i64 (yY s k).2.2.1]∧wx.ownsRow w1.heap.size 79 4 (.slice A (yY s k).2.1.length c) (yY s k).2.1.length (y2 (yY s k).2.1)∧Dk wx d∧But [d] w1 wx∧w1.heap.size<=bC)
  case first=>
   have hdl:=hDk.lt;have hS:ST d [] w1.drew:=⟨hDk.ext jX,fun x hx=>(by cases hx)⟩;refine za1 w1.heap.size d 25 (.take 1 (.take 5 (.take 9 (.alt 0 (.alt 2 (.take 3 (.take 4 (.alt 6 (.take 7 (.alt 8 (.alt 10 (.take 11 (.take 12 (.alt 13 (.take 14 (.take 15 (.take 16 (.alt 17 (.alt 18 (.take 19 .done) .none) .none)))) (.alt 17 (.alt 13 (.take 14 (.take 15 (.take 16 (.alt 18 (.take 19 .done) .none)))) .none) .none)))) (.alt 17 (.alt 10 (.take 11 (.take 12 (.alt 13 (.take 14 (.take 15 (.take 16 (.alt 18 (.take 19 .done) .none)))) .none))) .none) .none)) (.alt 10 (.alt 8 (.take 11 (.take 12 (.alt 13 (.take 14 (.take 15 (.take 16 (.alt 17 (.alt 18 (.take 19 .done) .none) .none)))) (.alt 17 (.alt 13 (.take 14 (.take 15 (.take 16 (.alt 18 (.take 19 .done) .none)))) .none) .none)))) (.alt 17 (.alt 8 (.take 11 (.take 12 (.alt 13 (.take 14 (.take 15 (.take 16 (.alt 18 (.take 19 .done) .none)))) .none))) .none) .none)) (.alt 17 (.alt 8 (.alt 10 (.take 11 (.take 12 (.alt 13 (.take 14 (.take 15 (.take 16 (.alt 18 (.take 19 .done) .none)))) .none))) .none) (.alt 10 (.alt 8 (.take 11 (.take 12 (.alt 13 (.take 14 (.take 15 (.take 16 (.alt 18 (.take 19 .done) .none)))) .none))) .none) .none)) .none)))) (.alt 17 (.alt 6 (.take 7 (.alt 8 (.alt 10 (.take 11 (.take 12 (.alt 13 (.take 14 (.take 15 (.take 16 (.alt 18 (.take 19 .done) .none)))) .none))) .none) (.alt 10 (.alt 8 (.take 11 (.take 12 (.alt 13 (.take 14 (.take 15 (.take 16 (.alt 18 (.take 19 .done) .none)))) .none))) .none) .none))) .none) .none)))) (.alt 17 (.alt 2 (.take 3 (.take 4 (.alt 6 (.take 7 (.alt 8 (.alt 10 (.take 11 (.take 12 (.alt 13 (.take 14 (.take 15 (.take 16 (.alt 18 (.take 19 .done) .none)))) .none))) .none) (.alt 10 (.alt 8 (.take 11 (.take 12 (.alt 13 (.take 14 (.take 15 (.take 16 (.alt 18 (.take 19 .done) .none)))) .none))) .none) .none))) .none))) .none) .none)) (.alt 17 (.alt 0 (.alt 2 (.take 3 (.take 4 (.alt 6 (.take 7 (.alt 8 (.alt 10 (.take 11 (.take 12 (.alt 13 (.take 14 (.take 15 (.take 16 (.alt 18 (.take 19 .done) .none)))) .none))) .none) (.alt 10 (.alt 8 (.take 11 (.take 12 (.alt 13 (.take 14 (.take 15 (.take 16 (.alt 18 (.take 19 .done) .none)))) .none))) .none) .none))) .none))) .none) .none) .none))))) Tryz.mixed (by kernel_rfl) ?_;intro hx;iterate 3 (first|refine jTK ?_|refine jTS ?_)
   refine jTC (fun K hK=> ?_) ?_;go_simp;go_at_call 23;refine(zdh _).mono ?_;rintro e w1 ⟨gN,rfl,kN,hgN,hEn⟩;replace hS:=(hS.ext hEn).add kN (Nat.lt_of_lt_of_le hS.dk.lt hgN);(try replace hC:=hC.ext hEn);refine hK _ _ (KB.ext hEn hdl) ?_;clear hK;intro hr;replace hx:=hx.trans hr;clear hr;refine jp ?_;refine jTC (fun K hK=> ?_) ?_;go_simp;go_at_call 17;refine(zG d 6 _ hS.dk (by omega) (by omega)).mono ?_;rintro e w1 ⟨x1,rfl,hx1,hDk1,hB⟩;(try replace hC:=hC.next hS.dk hB);replace hS:=hS.next hDk1 hB;have kN1:=hS.again kN (by simp);(obtain⟨s,hs6,hs⟩:=zhs (x:=x1) (by omega));refine hK _ _ (KB.but hB hdl) ?_;clear hK;intro hr;replace hx:=hx.trans hr;clear hr;refine jp ?_;first|refine jTK ?_|refine jTS ?_
   skip
   first|refine jTK ?_ (hv:=by intro _ hc;have kN2:=hs (hc.blk kN1.1 (by omega) (by decide));have lN:=(hc.blk kN1.1 (by omega) (by decide)).lt;go_simp;(try go_ints);exact rfl)|refine jTS ?_
   refine jTC (fun K hK=> ?_) ?_;go_simp;go_at_call 17;refine(zG d 100 _ hS.dk (by omega) (by omega)).mono ?_;rintro e w1 ⟨x2,rfl,hx2,hDk1,hB2⟩;(try replace hC:=hC.next hS.dk hB2);replace hS:=hS.next hDk1 hB2;have hx2a:x2<=99:=by omega
   refine hK _ _ (KB.but hB2 hdl) ?_;clear hK;intro hr;replace hx:=hx.trans hr;clear hr;refine jp ?_;first|refine jTK ?_|refine jTS ?_
   refine jTC (fun K hK=> ?_) ?_
   skip
   go_simp;first|refine hK _ _ ((KB.ext (Ext.alloc (Ext.refl _) _) hdl)) ?_|refine hK undef _ ((KB.ext (Ext.alloc (Ext.refl _) _) hdl)) ?_
   clear hK;intro hr;have kb:=xz hr;replace hS:=hS.new hr;(try simp only[yr]at kb hS);(try replace hC:=hC.ext (xO hr));replace hx:=hx.trans hr;clear hr;refine jp ?_;refine jTC (fun K hK=> ?_) ?_;go_simp;go_at_call 17;refine(zG d 6 _ hS.dk (by omega) (by omega)).mono ?_;rintro e w1 ⟨x3,rfl,hx3,hDk1,hB3⟩;(try replace hC:=hC.next hS.dk hB3);replace hS:=hS.next hDk1 hB3;have hx3a:x3<6:=by omega
   refine hK _ _ (KB.but hB3 hdl) ?_;clear hK;intro hr;replace hx:=hx.trans hr;clear hr;refine jp ?_;first|refine jTK ?_|refine jTS ?_
   (obtain⟨q,hq1,hq2,hqc⟩:=xR (x:=x3) hx3a hx2a);have kb1:=hS.again kb (by simp);first|refine jTK ?_ (hv:=by intro _ hc;have kb2:=hc.blk kb1.1 (by omega) (by decide);have cq:=(kb2.cell x3).trans hqc;have lb:=kb2.lt;go_simp;(try go_ints);exact rfl)|refine jTS ?_
   refine jTC (fun K hK=> ?_) ?_;go_simp;go_at_call 22;refine(yU s q _).mono ?_;rintro e w1 ⟨A,c,rfl,hRow,hEg⟩;(try replace hC:=hC.ext hEg);have hrb:=Nat.le_trans (Nat.le_refl _) hx.size;replace hS:=hS.ext hEg;refine hK _ _ (KB.ext hEg hdl) ?_;clear hK;intro hr;replace hx:=hx.trans hr;clear hr;refine jp ?_;iterate 3 (first|refine jTK ?_|refine jTS ?_)
   refine jTC (fun K hK=> ?_)
   skip
   go_simp;first|refine hK _ _ ((by first|exact KB.ext (Ext.alloc (Ext.refl _) _) hdl|exact KB.drew (KB.drewL (KB.ext (Ext.alloc (Ext.refl _) _) hdl)))) ?_|refine hK undef _ ((by first|exact KB.ext (Ext.alloc (Ext.refl _) _) hdl|exact KB.drew (KB.drewL (KB.ext (Ext.alloc (Ext.refl _) _) hdl)))) ?_
   clear hK;intro hr;(first|(have hC:=xP (Nat.le_refl _) hr;replace hS:=hS.newD hr)|(have hC:=qu hx (Nat.le_refl _) hr;replace hS:=hS.new hr));(try simp only[yr]at hC hS);(try replace hRow:=zm hRow (xO hr));replace hx:=hx.trans hr;clear hr;refine jp ?_;refine jTT (fun K hK=> ?_);(obtain⟨hNb,v0,v1,v2,kC⟩:=hC);have cC:=kC.cell;have fC:=kC.froz;have lC:=kC.lt;replace hS:=ST.dk hS;go_simp;refine hK _ ((by first|exact xt kC hNb|exact KB.fresh hNb _ _ rfl)) ?_;clear hK;intro hr;replace hRow:=hr.own hRow (Nat.lt_of_lt_of_le hdl hrb) (by decide);replace hx:=hx.trans hr;clear hr;first|refine jTK ?_|refine jTS ?_
   refine zi ?_;rotate_left;refine jTC (fun K hK=> ?_)
   skip
   go_simp;first|refine hK _ _ ((by first|exact KB.ext (Ext.alloc (Ext.refl _) _) hdl|exact KB.drew (KB.drewL (KB.ext (Ext.alloc (Ext.refl _) _) hdl)))) ?_|refine hK undef _ ((by first|exact KB.ext (Ext.alloc (Ext.refl _) _) hdl|exact KB.drew (KB.drewL (KB.ext (Ext.alloc (Ext.refl _) _) hdl)))) ?_
   clear hK;intro hr;(first|(have hC:=xP (Nat.le_refl _) hr;replace hS:=hS.newD hr)|(have hC:=qu hx (Nat.le_refl _) hr;replace hS:=hS.new hr));(try simp only[yr]at hC hS);(try replace hRow:=zm hRow (xO hr));replace hx:=hx.trans hr;clear hr;refine jp ?_;refine jTC (fun K hK=> ?_);go_simp;go_at_call 22;refine(yU s q _).mono ?_;rintro e w1 ⟨A,c,rfl,hRow,hEg⟩;(try replace hC:=hC.ext hEg);have hrb:=Nat.le_trans (Nat.le_refl _) hx.size;replace hS:=hS.ext hEg;refine hK _ _ (KB.ext hEg hdl) ?_;clear hK;intro hr;replace hx:=hx.trans hr;clear hr;refine jp ?_;iterate 3 (first|refine jTK ?_|refine jTS ?_)
   refine jTT (fun K hK=> ?_);(obtain⟨hNb,v0,v1,v2,kC⟩:=hC);have cC:=kC.cell;have fC:=kC.froz;have lC:=kC.lt;replace hS:=ST.dk hS;go_simp;refine hK _ ((by first|exact xt kC hNb|exact KB.fresh hNb _ _ rfl)) ?_;clear hK;intro hr;replace hRow:=hr.own hRow (Nat.lt_of_lt_of_le hdl hrb) (by decide);replace hx:=hx.trans hr;clear hr;first|refine jTK ?_|refine jTS ?_
   refine zi ?_;rotate_left;refine jTC (fun K hK=> ?_)
   skip
   go_simp;first|refine hK _ _ ((by first|exact KB.ext (Ext.alloc (Ext.refl _) _) hdl|exact KB.drew (KB.drewL (KB.ext (Ext.alloc (Ext.refl _) _) hdl)))) ?_|refine hK undef _ ((by first|exact KB.ext (Ext.alloc (Ext.refl _) _) hdl|exact KB.drew (KB.drewL (KB.ext (Ext.alloc (Ext.refl _) _) hdl)))) ?_
   clear hK;intro hr;(first|(have hC:=xP (Nat.le_refl _) hr;replace hS:=hS.newD hr)|(have hC:=qu hx (Nat.le_refl _) hr;replace hS:=hS.new hr));(try simp only[yr]at hC hS);(try replace hRow:=zm hRow (xO hr));replace hx:=hx.trans hr;clear hr;refine jp ?_;refine jTC (fun K hK=> ?_);go_simp;go_at_call 17;refine(zG d 6 _ hS.dk (by omega) (by omega)).mono ?_;rintro e w1 ⟨x3,rfl,hx3,hDk1,hB3⟩;(try replace hC:=hC.next hS.dk hB3);replace hS:=hS.next hDk1 hB3;have hx3a:x3<6:=by omega
   refine hK _ _ (KB.but hB3 hdl) ?_;clear hK;intro hr;replace hx:=hx.trans hr;clear hr;refine jp ?_;first|refine jTK ?_|refine jTS ?_
   (obtain⟨q,hq1,hq2,hqc⟩:=xR (x:=x3) hx3a hx2a);have kb1:=hS.again kb (by simp);first|refine jTK ?_ (hv:=by intro _ hc;have kb2:=hc.blk kb1.1 (by omega) (by decide);have cq:=(kb2.cell x3).trans hqc;have lb:=kb2.lt;go_simp;(try go_ints);exact rfl)|refine jTS ?_
   refine jTC (fun K hK=> ?_);go_simp;go_at_call 22;refine(yU s q _).mono ?_;rintro e w1 ⟨A,c,rfl,hRow,hEg⟩;(try replace hC:=hC.ext hEg);have hrb:=Nat.le_trans (Nat.le_refl _) hx.size;replace hS:=hS.ext hEg;refine hK _ _ (KB.ext hEg hdl) ?_;clear hK;intro hr;replace hx:=hx.trans hr;clear hr;refine jp ?_;iterate 3 (first|refine jTK ?_|refine jTS ?_)
   refine jTT (fun K hK=> ?_);(obtain⟨hNb,v0,v1,v2,kC⟩:=hC);have cC:=kC.cell;have fC:=kC.froz;have lC:=kC.lt;replace hS:=ST.dk hS;go_simp;refine hK _ ((by first|exact xt kC hNb|exact KB.fresh hNb _ _ rfl)) ?_;clear hK;intro hr;replace hRow:=hr.own hRow (Nat.lt_of_lt_of_le hdl hrb) (by decide);replace hx:=hx.trans hr;clear hr;first|refine jTK ?_|refine jTS ?_
   refine zi ?_;rotate_left;refine jTC (fun K hK=> ?_) ?_;go_simp;go_at_call 17;refine(zG d 6 _ hS.dk (by omega) (by omega)).mono ?_;rintro e w1 ⟨x3,rfl,hx3,hDk1,hB3⟩;(try replace hC:=hC.next hS.dk hB3);replace hS:=hS.next hDk1 hB3;have hx3a:x3<6:=by omega
   refine hK _ _ (KB.but hB3 hdl) ?_;clear hK;intro hr;replace hx:=hx.trans hr;clear hr;refine jp ?_;refine jTC (fun K hK=> ?_) ?_
   skip
   go_simp;first|refine hK _ _ ((KB.ext (Ext.alloc (Ext.refl _) _) hdl)) ?_|refine hK undef _ ((KB.ext (Ext.alloc (Ext.refl _) _) hdl)) ?_
   clear hK;intro hr;have kb:=xz hr;replace hS:=hS.new hr;(try simp only[yr]at kb hS);(try replace hC:=hC.ext (xO hr));replace hx:=hx.trans hr;clear hr;refine jp ?_;first|refine jTK ?_|refine jTS ?_
   (obtain⟨q,hq1,hq2,hqc⟩:=xR (x:=x3) hx3a hx2a);have kb1:=hS.again kb (by simp);first|refine jTK ?_ (hv:=by intro _ hc;have kb2:=hc.blk kb1.1 (by omega) (by decide);have cq:=(kb2.cell x3).trans hqc;have lb:=kb2.lt;go_simp;(try go_ints);exact rfl)|refine jTS ?_
   refine jTC (fun K hK=> ?_) ?_;go_simp;go_at_call 22;refine(yU s q _).mono ?_;rintro e w1 ⟨A,c,rfl,hRow,hEg⟩;(try replace hC:=hC.ext hEg);have hrb:=Nat.le_trans (Nat.le_refl _) hx.size;replace hS:=hS.ext hEg;refine hK _ _ (KB.ext hEg hdl) ?_;clear hK;intro hr;replace hx:=hx.trans hr;clear hr;refine jp ?_;iterate 3 (first|refine jTK ?_|refine jTS ?_)
   refine jTC (fun K hK=> ?_)
   skip
   go_simp;first|refine hK _ _ ((by first|exact KB.ext (Ext.alloc (Ext.refl _) _) hdl|exact KB.drew (KB.drewL (KB.ext (Ext.alloc (Ext.refl _) _) hdl)))) ?_|refine hK undef _ ((by first|exact KB.ext (Ext.alloc (Ext.refl _) _) hdl|exact KB.drew (KB.drewL (KB.ext (Ext.alloc (Ext.refl _) _) hdl)))) ?_
   clear hK;intro hr;(first|(have hC:=xP (Nat.le_refl _) hr;replace hS:=hS.newD hr)|(have hC:=qu hx (Nat.le_refl _) hr;replace hS:=hS.new hr));(try simp only[yr]at hC hS);(try replace hRow:=zm hRow (xO hr));replace hx:=hx.trans hr;clear hr;refine jp ?_;refine jTT (fun K hK=> ?_);(obtain⟨hNb,v0,v1,v2,kC⟩:=hC);have cC:=kC.cell;have fC:=kC.froz;have lC:=kC.lt;replace hS:=ST.dk hS;go_simp;refine hK _ ((by first|exact xt kC hNb|exact KB.fresh hNb _ _ rfl)) ?_;clear hK;intro hr;replace hRow:=hr.own hRow (Nat.lt_of_lt_of_le hdl hrb) (by decide);replace hx:=hx.trans hr;clear hr;first|refine jTK ?_|refine jTS ?_
   refine zi ?_;rotate_left;refine jTC (fun K hK=> ?_)
   skip
   go_simp;first|refine hK _ _ ((by first|exact KB.ext (Ext.alloc (Ext.refl _) _) hdl|exact KB.drew (KB.drewL (KB.ext (Ext.alloc (Ext.refl _) _) hdl)))) ?_|refine hK undef _ ((by first|exact KB.ext (Ext.alloc (Ext.refl _) _) hdl|exact KB.drew (KB.drewL (KB.ext (Ext.alloc (Ext.refl _) _) hdl)))) ?_
   clear hK;intro hr;(first|(have hC:=xP (Nat.le_refl _) hr;replace hS:=hS.newD hr)|(have hC:=qu hx (Nat.le_refl _) hr;replace hS:=hS.new hr));(try simp only[yr]at hC hS);(try replace hRow:=zm hRow (xO hr));replace hx:=hx.trans hr;clear hr;refine jp ?_;refine jTC (fun K hK=> ?_);go_simp;go_at_call 22;refine(yU s q _).mono ?_;rintro e w1 ⟨A,c,rfl,hRow,hEg⟩;(try replace hC:=hC.ext hEg);have hrb:=Nat.le_trans (Nat.le_refl _) hx.size;replace hS:=hS.ext hEg;refine hK _ _ (KB.ext hEg hdl) ?_;clear hK;intro hr;replace hx:=hx.trans hr;clear hr;refine jp ?_;iterate 3 (first|refine jTK ?_|refine jTS ?_)
   refine jTT (fun K hK=> ?_);(obtain⟨hNb,v0,v1,v2,kC⟩:=hC);have cC:=kC.cell;have fC:=kC.froz;have lC:=kC.lt;replace hS:=ST.dk hS;go_simp;refine hK _ ((by first|exact xt kC hNb|exact KB.fresh hNb _ _ rfl)) ?_;clear hK;intro hr;replace hRow:=hr.own hRow (Nat.lt_of_lt_of_le hdl hrb) (by decide);replace hx:=hx.trans hr;clear hr;first|refine jTK ?_|refine jTS ?_
   refine zi ?_;rotate_left;refine jTC (fun K hK=> ?_)
   skip
   go_simp;first|refine hK _ _ ((by first|exact KB.ext (Ext.alloc (Ext.refl _) _) hdl|exact KB.drew (KB.drewL (KB.ext (Ext.alloc (Ext.refl _) _) hdl)))) ?_|refine hK undef _ ((by first|exact KB.ext (Ext.alloc (Ext.refl _) _) hdl|exact KB.drew (KB.drewL (KB.ext (Ext.alloc (Ext.refl _) _) hdl)))) ?_
   clear hK;intro hr;(first|(have hC:=xP (Nat.le_refl _) hr;replace hS:=hS.newD hr)|(have hC:=qu hx (Nat.le_refl _) hr;replace hS:=hS.new hr));(try simp only[yr]at hC hS);(try replace hRow:=zm hRow (xO hr));replace hx:=hx.trans hr;clear hr;refine jp ?_;refine jTC (fun K hK=> ?_)
   skip
   go_simp;first|refine hK _ _ ((KB.ext (Ext.alloc (Ext.refl _) _) hdl)) ?_|refine hK undef _ ((KB.ext (Ext.alloc (Ext.refl _) _) hdl)) ?_
   clear hK;intro hr;have kb:=xz hr;replace hS:=hS.new hr;(try simp only[yr]at kb hS);(try replace hC:=hC.ext (xO hr));replace hx:=hx.trans hr;clear hr;refine jp ?_;first|refine jTK ?_|refine jTS ?_
   (obtain⟨q,hq1,hq2,hqc⟩:=xR (x:=x3) hx3a hx2a);have kb1:=hS.again kb (by simp);first|refine jTK ?_ (hv:=by intro _ hc;have kb2:=hc.blk kb1.1 (by omega) (by decide);have cq:=(kb2.cell x3).trans hqc;have lb:=kb2.lt;go_simp;(try go_ints);exact rfl)|refine jTS ?_
   refine jTC (fun K hK=> ?_);go_simp;go_at_call 22;refine(yU s q _).mono ?_;rintro e w1 ⟨A,c,rfl,hRow,hEg⟩;(try replace hC:=hC.ext hEg);have hrb:=Nat.le_trans (Nat.le_refl _) hx.size;replace hS:=hS.ext hEg;refine hK _ _ (KB.ext hEg hdl) ?_;clear hK;intro hr;replace hx:=hx.trans hr;clear hr;refine jp ?_;iterate 3 (first|refine jTK ?_|refine jTS ?_)
   refine jTT (fun K hK=> ?_);(obtain⟨hNb,v0,v1,v2,kC⟩:=hC);have cC:=kC.cell;have fC:=kC.froz;have lC:=kC.lt;replace hS:=ST.dk hS;go_simp;refine hK _ ((by first|exact xt kC hNb|exact KB.fresh hNb _ _ rfl)) ?_;clear hK;intro hr;replace hRow:=hr.own hRow (Nat.lt_of_lt_of_le hdl hrb) (by decide);replace hx:=hx.trans hr;clear hr;first|refine jTK ?_|refine jTS ?_
   refine zi ?_;rotate_left;refine jTC (fun K hK=> ?_)
   skip
   go_simp;first|refine hK _ _ ((by first|exact KB.ext (Ext.alloc (Ext.refl _) _) hdl|exact KB.drew (KB.drewL (KB.ext (Ext.alloc (Ext.refl _) _) hdl)))) ?_|refine hK undef _ ((by first|exact KB.ext (Ext.alloc (Ext.refl _) _) hdl|exact KB.drew (KB.drewL (KB.ext (Ext.alloc (Ext.refl _) _) hdl)))) ?_
   clear hK;intro hr;(first|(have hC:=xP (Nat.le_refl _) hr;replace hS:=hS.newD hr)|(have hC:=qu hx (Nat.le_refl _) hr;replace hS:=hS.new hr));(try simp only[yr]at hC hS);(try replace hRow:=zm hRow (xO hr));replace hx:=hx.trans hr;clear hr;refine jp ?_;refine jTC (fun K hK=> ?_) ?_
   skip
   go_simp;first|refine hK _ _ ((KB.ext (Ext.alloc (Ext.refl _) _) hdl)) ?_|refine hK undef _ ((KB.ext (Ext.alloc (Ext.refl _) _) hdl)) ?_
   clear hK;intro hr;have kb:=xz hr;replace hS:=hS.new hr;(try simp only[yr]at kb hS);(try replace hC:=hC.ext (xO hr));replace hx:=hx.trans hr;clear hr;refine jp ?_;refine jTC (fun K hK=> ?_);go_simp;go_at_call 17;refine(zG d 6 _ hS.dk (by omega) (by omega)).mono ?_;rintro e w1 ⟨x3,rfl,hx3,hDk1,hB3⟩;(try replace hC:=hC.next hS.dk hB3);replace hS:=hS.next hDk1 hB3;have hx3a:x3<6:=by omega
   refine hK _ _ (KB.but hB3 hdl) ?_;clear hK;intro hr;replace hx:=hx.trans hr;clear hr;refine jp ?_;first|refine jTK ?_|refine jTS ?_
   (obtain⟨q,hq1,hq2,hqc⟩:=xR (x:=x3) hx3a hx2a);have kb1:=hS.again kb (by simp);first|refine jTK ?_ (hv:=by intro _ hc;have kb2:=hc.blk kb1.1 (by omega) (by decide);have cq:=(kb2.cell x3).trans hqc;have lb:=kb2.lt;go_simp;(try go_ints);exact rfl)|refine jTS ?_
   refine jTC (fun K hK=> ?_);go_simp;go_at_call 22;refine(yU s q _).mono ?_;rintro e w1 ⟨A,c,rfl,hRow,hEg⟩;(try replace hC:=hC.ext hEg);have hrb:=Nat.le_trans (Nat.le_refl _) hx.size;replace hS:=hS.ext hEg;refine hK _ _ (KB.ext hEg hdl) ?_;clear hK;intro hr;replace hx:=hx.trans hr;clear hr;refine jp ?_;iterate 3 (first|refine jTK ?_|refine jTS ?_)
   refine jTT (fun K hK=> ?_);(obtain⟨hNb,v0,v1,v2,kC⟩:=hC);have cC:=kC.cell;have fC:=kC.froz;have lC:=kC.lt;replace hS:=ST.dk hS;go_simp;refine hK _ ((by first|exact xt kC hNb|exact KB.fresh hNb _ _ rfl)) ?_;clear hK;intro hr;replace hRow:=hr.own hRow (Nat.lt_of_lt_of_le hdl hrb) (by decide);replace hx:=hx.trans hr;clear hr;first|refine jTK ?_|refine jTS ?_
   refine zi ?_;rotate_left;refine jTC (fun K hK=> ?_);go_simp;go_at_call 17;refine(zG d 6 _ hS.dk (by omega) (by omega)).mono ?_;rintro e w1 ⟨x3,rfl,hx3,hDk1,hB3⟩;(try replace hC:=hC.next hS.dk hB3);replace hS:=hS.next hDk1 hB3;have hx3a:x3<6:=by omega
   refine hK _ _ (KB.but hB3 hdl) ?_;clear hK;intro hr;replace hx:=hx.trans hr;clear hr;refine jp ?_;refine jTC (fun K hK=> ?_)
   skip
   go_simp;first|refine hK _ _ ((KB.ext (Ext.alloc (Ext.refl _) _) hdl)) ?_|refine hK undef _ ((KB.ext (Ext.alloc (Ext.refl _) _) hdl)) ?_
   clear hK;intro hr;have kb:=xz hr;replace hS:=hS.new hr;(try simp only[yr]at kb hS);(try replace hC:=hC.ext (xO hr));replace hx:=hx.trans hr;clear hr;refine jp ?_;first|refine jTK ?_|refine jTS ?_
   (obtain⟨q,hq1,hq2,hqc⟩:=xR (x:=x3) hx3a hx2a);have kb1:=hS.again kb (by simp);first|refine jTK ?_ (hv:=by intro _ hc;have kb2:=hc.blk kb1.1 (by omega) (by decide);have cq:=(kb2.cell x3).trans hqc;have lb:=kb2.lt;go_simp;(try go_ints);exact rfl)|refine jTS ?_
   refine jTC (fun K hK=> ?_);go_simp;go_at_call 22;refine(yU s q _).mono ?_;rintro e w1 ⟨A,c,rfl,hRow,hEg⟩;(try replace hC:=hC.ext hEg);have hrb:=Nat.le_trans (Nat.le_refl _) hx.size;replace hS:=hS.ext hEg;refine hK _ _ (KB.ext hEg hdl) ?_;clear hK;intro hr;replace hx:=hx.trans hr;clear hr;refine jp ?_;iterate 3 (first|refine jTK ?_|refine jTS ?_)
   refine jTT (fun K hK=> ?_);(obtain⟨hNb,v0,v1,v2,kC⟩:=hC);have cC:=kC.cell;have fC:=kC.froz;have lC:=kC.lt;replace hS:=ST.dk hS;go_simp;refine hK _ ((by first|exact xt kC hNb|exact KB.fresh hNb _ _ rfl)) ?_;clear hK;intro hr;replace hRow:=hr.own hRow (Nat.lt_of_lt_of_le hdl hrb) (by decide);replace hx:=hx.trans hr;clear hr;first|refine jTK ?_|refine jTS ?_
   refine zi ?_;rotate_left;refine jTC (fun K hK=> ?_)
   skip
   go_simp;first|refine hK _ _ ((by first|exact KB.ext (Ext.alloc (Ext.refl _) _) hdl|exact KB.drew (KB.drewL (KB.ext (Ext.alloc (Ext.refl _) _) hdl)))) ?_|refine hK undef _ ((by first|exact KB.ext (Ext.alloc (Ext.refl _) _) hdl|exact KB.drew (KB.drewL (KB.ext (Ext.alloc (Ext.refl _) _) hdl)))) ?_
   clear hK;intro hr;(first|(have hC:=xP (Nat.le_refl _) hr;replace hS:=hS.newD hr)|(have hC:=qu hx (Nat.le_refl _) hr;replace hS:=hS.new hr));(try simp only[yr]at hC hS);(try replace hRow:=zm hRow (xO hr));replace hx:=hx.trans hr;clear hr;refine jp ?_;refine jTC (fun K hK=> ?_);go_simp;go_at_call 17;refine(zG d 100 _ hS.dk (by omega) (by omega)).mono ?_;rintro e w1 ⟨x2,rfl,hx2,hDk1,hB2⟩;(try replace hC:=hC.next hS.dk hB2);replace hS:=hS.next hDk1 hB2;have hx2a:x2<=99:=by omega
   refine hK _ _ (KB.but hB2 hdl) ?_;clear hK;intro hr;replace hx:=hx.trans hr;clear hr;refine jp ?_;first|refine jTK ?_|refine jTS ?_
   refine jTC (fun K hK=> ?_) ?_
   skip
   go_simp;first|refine hK _ _ ((KB.ext (Ext.alloc (Ext.refl _) _) hdl)) ?_|refine hK undef _ ((KB.ext (Ext.alloc (Ext.refl _) _) hdl)) ?_
   clear hK;intro hr;have kb:=xz hr;replace hS:=hS.new hr;(try simp only[yr]at kb hS);(try replace hC:=hC.ext (xO hr));replace hx:=hx.trans hr;clear hr;refine jp ?_;refine jTC (fun K hK=> ?_);go_simp;go_at_call 17;refine(zG d 6 _ hS.dk (by omega) (by omega)).mono ?_;rintro e w1 ⟨x3,rfl,hx3,hDk1,hB3⟩;(try replace hC:=hC.next hS.dk hB3);replace hS:=hS.next hDk1 hB3;have hx3a:x3<6:=by omega
   refine hK _ _ (KB.but hB3 hdl) ?_;clear hK;intro hr;replace hx:=hx.trans hr;clear hr;refine jp ?_;first|refine jTK ?_|refine jTS ?_
   (obtain⟨q,hq1,hq2,hqc⟩:=xR (x:=x3) hx3a hx2a);have kb1:=hS.again kb (by simp);first|refine jTK ?_ (hv:=by intro _ hc;have kb2:=hc.blk kb1.1 (by omega) (by decide);have cq:=(kb2.cell x3).trans hqc;have lb:=kb2.lt;go_simp;(try go_ints);exact rfl)|refine jTS ?_
   refine jTC (fun K hK=> ?_);go_simp;go_at_call 22;refine(yU s q _).mono ?_;rintro e w1 ⟨A,c,rfl,hRow,hEg⟩;(try replace hC:=hC.ext hEg);have hrb:=Nat.le_trans (Nat.le_refl _) hx.size;replace hS:=hS.ext hEg;refine hK _ _ (KB.ext hEg hdl) ?_;clear hK;intro hr;replace hx:=hx.trans hr;clear hr;refine jp ?_;iterate 3 (first|refine jTK ?_|refine jTS ?_)
   refine jTT (fun K hK=> ?_);(obtain⟨hNb,v0,v1,v2,kC⟩:=hC);have cC:=kC.cell;have fC:=kC.froz;have lC:=kC.lt;replace hS:=ST.dk hS;go_simp;refine hK _ ((by first|exact xt kC hNb|exact KB.fresh hNb _ _ rfl)) ?_;clear hK;intro hr;replace hRow:=hr.own hRow (Nat.lt_of_lt_of_le hdl hrb) (by decide);replace hx:=hx.trans hr;clear hr;first|refine jTK ?_|refine jTS ?_
   refine zi ?_;rotate_left;refine jTC (fun K hK=> ?_);go_simp;go_at_call 17;refine(zG d 6 _ hS.dk (by omega) (by omega)).mono ?_;rintro e w1 ⟨x3,rfl,hx3,hDk1,hB3⟩;(try replace hC:=hC.next hS.dk hB3);replace hS:=hS.next hDk1 hB3;have hx3a:x3<6:=by omega
   refine hK _ _ (KB.but hB3 hdl) ?_;clear hK;intro hr;replace hx:=hx.trans hr;clear hr;refine jp ?_;refine jTC (fun K hK=> ?_)
   skip
   go_simp;first|refine hK _ _ ((KB.ext (Ext.alloc (Ext.refl _) _) hdl)) ?_|refine hK undef _ ((KB.ext (Ext.alloc (Ext.refl _) _) hdl)) ?_
   clear hK;intro hr;have kb:=xz hr;replace hS:=hS.new hr;(try simp only[yr]at kb hS);(try replace hC:=hC.ext (xO hr));replace hx:=hx.trans hr;clear hr;refine jp ?_;first|refine jTK ?_|refine jTS ?_
   (obtain⟨q,hq1,hq2,hqc⟩:=xR (x:=x3) hx3a hx2a);have kb1:=hS.again kb (by simp);first|refine jTK ?_ (hv:=by intro _ hc;have kb2:=hc.blk kb1.1 (by omega) (by decide);have cq:=(kb2.cell x3).trans hqc;have lb:=kb2.lt;go_simp;(try go_ints);exact rfl)|refine jTS ?_
   refine jTC (fun K hK=> ?_);go_simp;go_at_call 22;refine(yU s q _).mono ?_;rintro e w1 ⟨A,c,rfl,hRow,hEg⟩;(try replace hC:=hC.ext hEg);have hrb:=Nat.le_trans (Nat.le_refl _) hx.size;replace hS:=hS.ext hEg;refine hK _ _ (KB.ext hEg hdl) ?_;clear hK;intro hr;replace hx:=hx.trans hr;clear hr;refine jp ?_;iterate 3 (first|refine jTK ?_|refine jTS ?_)
   refine jTT (fun K hK=> ?_);(obtain⟨hNb,v0,v1,v2,kC⟩:=hC);have cC:=kC.cell;have fC:=kC.froz;have lC:=kC.lt;replace hS:=ST.dk hS;go_simp;refine hK _ ((by first|exact xt kC hNb|exact KB.fresh hNb _ _ rfl)) ?_;clear hK;intro hr;replace hRow:=hr.own hRow (Nat.lt_of_lt_of_le hdl hrb) (by decide);replace hx:=hx.trans hr;clear hr;first|refine jTK ?_|refine jTS ?_
   refine zi ?_;rotate_left;refine jTC (fun K hK=> ?_)
   skip
   go_simp;first|refine hK _ _ ((by first|exact KB.ext (Ext.alloc (Ext.refl _) _) hdl|exact KB.drew (KB.drewL (KB.ext (Ext.alloc (Ext.refl _) _) hdl)))) ?_|refine hK undef _ ((by first|exact KB.ext (Ext.alloc (Ext.refl _) _) hdl|exact KB.drew (KB.drewL (KB.ext (Ext.alloc (Ext.refl _) _) hdl)))) ?_
   clear hK;intro hr;(first|(have hC:=xP (Nat.le_refl _) hr;replace hS:=hS.newD hr)|(have hC:=qu hx (Nat.le_refl _) hr;replace hS:=hS.new hr));(try simp only[yr]at hC hS);(try replace hRow:=zm hRow (xO hr));replace hx:=hx.trans hr;clear hr;refine jp ?_;refine jTC (fun K hK=> ?_);go_simp;go_at_call 17;refine(zG d 6 _ hS.dk (by omega) (by omega)).mono ?_;rintro e w1 ⟨x1,rfl,hx1,hDk1,hB⟩;(try replace hC:=hC.next hS.dk hB);replace hS:=hS.next hDk1 hB;have kN1:=hS.again kN (by simp);(obtain⟨s,hs6,hs⟩:=zhs (x:=x1) (by omega));refine hK _ _ (KB.but hB hdl) ?_;clear hK;intro hr;replace hx:=hx.trans hr;clear hr;refine jp ?_;first|refine jTK ?_|refine jTS ?_
   skip
   first|refine jTK ?_ (hv:=by intro _ hc;have kN2:=hs (hc.blk kN1.1 (by omega) (by decide));have lN:=(hc.blk kN1.1 (by omega) (by decide)).lt;go_simp;(try go_ints);exact rfl)|refine jTS ?_
   refine jTC (fun K hK=> ?_);go_simp;go_at_call 17;refine(zG d 100 _ hS.dk (by omega) (by omega)).mono ?_;rintro e w1 ⟨x2,rfl,hx2,hDk1,hB2⟩;(try replace hC:=hC.next hS.dk hB2);replace hS:=hS.next hDk1 hB2;have hx2a:x2<=99:=by omega
   refine hK _ _ (KB.but hB2 hdl) ?_;clear hK;intro hr;replace hx:=hx.trans hr;clear hr;refine jp ?_;first|refine jTK ?_|refine jTS ?_
   refine jTC (fun K hK=> ?_) ?_
   skip
   go_simp;first|refine hK _ _ ((KB.ext (Ext.alloc (Ext.refl _) _) hdl)) ?_|refine hK undef _ ((KB.ext (Ext.alloc (Ext.refl _) _) hdl)) ?_
   clear hK;intro hr;have kb:=xz hr;replace hS:=hS.new hr;(try simp only[yr]at kb hS);(try replace hC:=hC.ext (xO hr));replace hx:=hx.trans hr;clear hr;refine jp ?_;refine jTC (fun K hK=> ?_);go_simp;go_at_call 17;refine(zG d 6 _ hS.dk (by omega) (by omega)).mono ?_;rintro e w1 ⟨x3,rfl,hx3,hDk1,hB3⟩;(try replace hC:=hC.next hS.dk hB3);replace hS:=hS.next hDk1 hB3;have hx3a:x3<6:=by omega
   refine hK _ _ (KB.but hB3 hdl) ?_;clear hK;intro hr;replace hx:=hx.trans hr;clear hr;refine jp ?_;first|refine jTK ?_|refine jTS ?_
   (obtain⟨q,hq1,hq2,hqc⟩:=xR (x:=x3) hx3a hx2a);have kb1:=hS.again kb (by simp);first|refine jTK ?_ (hv:=by intro _ hc;have kb2:=hc.blk kb1.1 (by omega) (by decide);have cq:=(kb2.cell x3).trans hqc;have lb:=kb2.lt;go_simp;(try go_ints);exact rfl)|refine jTS ?_
   refine jTC (fun K hK=> ?_);go_simp;go_at_call 22;refine(yU s q _).mono ?_;rintro e w1 ⟨A,c,rfl,hRow,hEg⟩;(try replace hC:=hC.ext hEg);have hrb:=Nat.le_trans (Nat.le_refl _) hx.size;replace hS:=hS.ext hEg;refine hK _ _ (KB.ext hEg hdl) ?_;clear hK;intro hr;replace hx:=hx.trans hr;clear hr;refine jp ?_;iterate 3 (first|refine jTK ?_|refine jTS ?_)
   refine jTT (fun K hK=> ?_);(obtain⟨hNb,v0,v1,v2,kC⟩:=hC);have cC:=kC.cell;have fC:=kC.froz;have lC:=kC.lt;replace hS:=ST.dk hS;go_simp;refine hK _ ((by first|exact xt kC hNb|exact KB.fresh hNb _ _ rfl)) ?_;clear hK;intro hr;replace hRow:=hr.own hRow (Nat.lt_of_lt_of_le hdl hrb) (by decide);replace hx:=hx.trans hr;clear hr;first|refine jTK ?_|refine jTS ?_
   refine zi ?_;rotate_left;refine jTC (fun K hK=> ?_);go_simp;go_at_call 17;refine(zG d 6 _ hS.dk (by omega) (by omega)).mono ?_;rintro e w1 ⟨x3,rfl,hx3,hDk1,hB3⟩;(try replace hC:=hC.next hS.dk hB3);replace hS:=hS.next hDk1 hB3;have hx3a:x3<6:=by omega
   refine hK _ _ (KB.but hB3 hdl) ?_;clear hK;intro hr;replace hx:=hx.trans hr;clear hr;refine jp ?_;refine jTC (fun K hK=> ?_)
   skip
   go_simp;first|refine hK _ _ ((KB.ext (Ext.alloc (Ext.refl _) _) hdl)) ?_|refine hK undef _ ((KB.ext (Ext.alloc (Ext.refl _) _) hdl)) ?_
   clear hK;intro hr;have kb:=xz hr;replace hS:=hS.new hr;(try simp only[yr]at kb hS);(try replace hC:=hC.ext (xO hr));replace hx:=hx.trans hr;clear hr;refine jp ?_;first|refine jTK ?_|refine jTS ?_
   (obtain⟨q,hq1,hq2,hqc⟩:=xR (x:=x3) hx3a hx2a);have kb1:=hS.again kb (by simp);first|refine jTK ?_ (hv:=by intro _ hc;have kb2:=hc.blk kb1.1 (by omega) (by decide);have cq:=(kb2.cell x3).trans hqc;have lb:=kb2.lt;go_simp;(try go_ints);exact rfl)|refine jTS ?_
   refine jTC (fun K hK=> ?_);go_simp;go_at_call 22;refine(yU s q _).mono ?_;rintro e w1 ⟨A,c,rfl,hRow,hEg⟩;(try replace hC:=hC.ext hEg);have hrb:=Nat.le_trans (Nat.le_refl _) hx.size;replace hS:=hS.ext hEg;refine hK _ _ (KB.ext hEg hdl) ?_;clear hK;intro hr;replace hx:=hx.trans hr;clear hr;refine jp ?_;iterate 3 (first|refine jTK ?_|refine jTS ?_)
   refine jTT (fun K hK=> ?_);(obtain⟨hNb,v0,v1,v2,kC⟩:=hC);have cC:=kC.cell;have fC:=kC.froz;have lC:=kC.lt;replace hS:=ST.dk hS;go_simp;refine hK _ ((by first|exact xt kC hNb|exact KB.fresh hNb _ _ rfl)) ?_;clear hK;intro hr;replace hRow:=hr.own hRow (Nat.lt_of_lt_of_le hdl hrb) (by decide);replace hx:=hx.trans hr;clear hr;first|refine jTK ?_|refine jTS ?_
   refine zi ?_;rotate_left;refine jTC (fun K hK=> ?_)
   skip
   go_simp;first|refine hK _ _ ((by first|exact KB.ext (Ext.alloc (Ext.refl _) _) hdl|exact KB.drew (KB.drewL (KB.ext (Ext.alloc (Ext.refl _) _) hdl)))) ?_|refine hK undef _ ((by first|exact KB.ext (Ext.alloc (Ext.refl _) _) hdl|exact KB.drew (KB.drewL (KB.ext (Ext.alloc (Ext.refl _) _) hdl)))) ?_
   clear hK;intro hr;(first|(have hC:=xP (Nat.le_refl _) hr;replace hS:=hS.newD hr)|(have hC:=qu hx (Nat.le_refl _) hr;replace hS:=hS.new hr));(try simp only[yr]at hC hS);(try replace hRow:=zm hRow (xO hr));replace hx:=hx.trans hr;clear hr;refine jp ?_;refine jTC (fun K hK=> ?_);go_simp;go_at_call 23;refine(zdh _).mono ?_;rintro e w1 ⟨gN,rfl,kN,hgN,hEn⟩;replace hS:=(hS.ext hEn).add kN (Nat.lt_of_lt_of_le hS.dk.lt hgN);(try replace hC:=hC.ext hEn);refine hK _ _ (KB.ext hEn hdl) ?_;clear hK;intro hr;replace hx:=hx.trans hr;clear hr;refine jp ?_;refine jTC (fun K hK=> ?_);go_simp;go_at_call 17;refine(zG d 6 _ hS.dk (by omega) (by omega)).mono ?_;rintro e w1 ⟨x1,rfl,hx1,hDk1,hB⟩;(try replace hC:=hC.next hS.dk hB);replace hS:=hS.next hDk1 hB;have kN1:=hS.again kN (by simp);(obtain⟨s,hs6,hs⟩:=zhs (x:=x1) (by omega));refine hK _ _ (KB.but hB hdl) ?_;clear hK;intro hr;replace hx:=hx.trans hr;clear hr;refine jp ?_;first|refine jTK ?_|refine jTS ?_
   skip
   first|refine jTK ?_ (hv:=by intro _ hc;have kN2:=hs (hc.blk kN1.1 (by omega) (by decide));have lN:=(hc.blk kN1.1 (by omega) (by decide)).lt;go_simp;(try go_ints);exact rfl)|refine jTS ?_
   refine jTC (fun K hK=> ?_);go_simp;go_at_call 17;refine(zG d 100 _ hS.dk (by omega) (by omega)).mono ?_;rintro e w1 ⟨x2,rfl,hx2,hDk1,hB2⟩;(try replace hC:=hC.next hS.dk hB2);replace hS:=hS.next hDk1 hB2;have hx2a:x2<=99:=by omega
   refine hK _ _ (KB.but hB2 hdl) ?_;clear hK;intro hr;replace hx:=hx.trans hr;clear hr;refine jp ?_;first|refine jTK ?_|refine jTS ?_
   refine jTC (fun K hK=> ?_) ?_
   skip
   go_simp;first|refine hK _ _ ((KB.ext (Ext.alloc (Ext.refl _) _) hdl)) ?_|refine hK undef _ ((KB.ext (Ext.alloc (Ext.refl _) _) hdl)) ?_
   clear hK;intro hr;have kb:=xz hr;replace hS:=hS.new hr;(try simp only[yr]at kb hS);(try replace hC:=hC.ext (xO hr));replace hx:=hx.trans hr;clear hr;refine jp ?_;refine jTC (fun K hK=> ?_);go_simp;go_at_call 17;refine(zG d 6 _ hS.dk (by omega) (by omega)).mono ?_;rintro e w1 ⟨x3,rfl,hx3,hDk1,hB3⟩;(try replace hC:=hC.next hS.dk hB3);replace hS:=hS.next hDk1 hB3;have hx3a:x3<6:=by omega
   refine hK _ _ (KB.but hB3 hdl) ?_;clear hK;intro hr;replace hx:=hx.trans hr;clear hr;refine jp ?_;first|refine jTK ?_|refine jTS ?_
   (obtain⟨q,hq1,hq2,hqc⟩:=xR (x:=x3) hx3a hx2a);have kb1:=hS.again kb (by simp);first|refine jTK ?_ (hv:=by intro _ hc;have kb2:=hc.blk kb1.1 (by omega) (by decide);have cq:=(kb2.cell x3).trans hqc;have lb:=kb2.lt;go_simp;(try go_ints);exact rfl)|refine jTS ?_
   refine jTC (fun K hK=> ?_);go_simp;go_at_call 22;refine(yU s q _).mono ?_;rintro e w1 ⟨A,c,rfl,hRow,hEg⟩;(try replace hC:=hC.ext hEg);have hrb:=Nat.le_trans (Nat.le_refl _) hx.size;replace hS:=hS.ext hEg;refine hK _ _ (KB.ext hEg hdl) ?_;clear hK;intro hr;replace hx:=hx.trans hr;clear hr;refine jp ?_;iterate 3 (first|refine jTK ?_|refine jTS ?_)
   refine jTT (fun K hK=> ?_);(obtain⟨hNb,v0,v1,v2,kC⟩:=hC);have cC:=kC.cell;have fC:=kC.froz;have lC:=kC.lt;replace hS:=ST.dk hS;go_simp;refine hK _ ((by first|exact xt kC hNb|exact KB.fresh hNb _ _ rfl)) ?_;clear hK;intro hr;replace hRow:=hr.own hRow (Nat.lt_of_lt_of_le hdl hrb) (by decide);replace hx:=hx.trans hr;clear hr;first|refine jTK ?_|refine jTS ?_
   refine zi ?_;rotate_left;refine jTC (fun K hK=> ?_);go_simp;go_at_call 17;refine(zG d 6 _ hS.dk (by omega) (by omega)).mono ?_;rintro e w1 ⟨x3,rfl,hx3,hDk1,hB3⟩;(try replace hC:=hC.next hS.dk hB3);replace hS:=hS.next hDk1 hB3;have hx3a:x3<6:=by omega
   refine hK _ _ (KB.but hB3 hdl) ?_;clear hK;intro hr;replace hx:=hx.trans hr;clear hr;refine jp ?_;refine jTC (fun K hK=> ?_)
   skip
   go_simp;first|refine hK _ _ ((KB.ext (Ext.alloc (Ext.refl _) _) hdl)) ?_|refine hK undef _ ((KB.ext (Ext.alloc (Ext.refl _) _) hdl)) ?_
   clear hK;intro hr;have kb:=xz hr;replace hS:=hS.new hr;(try simp only[yr]at kb hS);(try replace hC:=hC.ext (xO hr));replace hx:=hx.trans hr;clear hr;refine jp ?_;first|refine jTK ?_|refine jTS ?_
   (obtain⟨q,hq1,hq2,hqc⟩:=xR (x:=x3) hx3a hx2a);have kb1:=hS.again kb (by simp);first|refine jTK ?_ (hv:=by intro _ hc;have kb2:=hc.blk kb1.1 (by omega) (by decide);have cq:=(kb2.cell x3).trans hqc;have lb:=kb2.lt;go_simp;(try go_ints);exact rfl)|refine jTS ?_
   refine jTC (fun K hK=> ?_);go_simp;go_at_call 22;refine(yU s q _).mono ?_;rintro e w1 ⟨A,c,rfl,hRow,hEg⟩;(try replace hC:=hC.ext hEg);have hrb:=Nat.le_trans (Nat.le_refl _) hx.size;replace hS:=hS.ext hEg;refine hK _ _ (KB.ext hEg hdl) ?_;clear hK;intro hr;replace hx:=hx.trans hr;clear hr;refine jp ?_;iterate 3 (first|refine jTK ?_|refine jTS ?_)
   refine jTT (fun K hK=> ?_);(obtain⟨hNb,v0,v1,v2,kC⟩:=hC);have cC:=kC.cell;have fC:=kC.froz;have lC:=kC.lt;replace hS:=ST.dk hS;go_simp;refine hK _ ((by first|exact xt kC hNb|exact KB.fresh hNb _ _ rfl)) ?_;clear hK;intro hr;replace hRow:=hr.own hRow (Nat.lt_of_lt_of_le hdl hrb) (by decide);replace hx:=hx.trans hr;clear hr;first|refine jTK ?_|refine jTS ?_
   refine zi ?_;rotate_left
   all_goals
    go_wp2;go_meet
    first
     |(exact⟨_,s,q,A,c,rfl,hs6,hq1,hq2,((kC.set_ 0 _).set_ 1 _).set_ 2 _,zu hRow hrb,((hS.far (by simp only;omega) _).far (by simp only;omega) _).far (by simp only;omega) _,(KB.drewW hx).toBut,hNb⟩)
     |(exact⟨_,s,q,A,c,rfl,hs6,hq1,hq2,Blk.new rfl,zu hRow hrb,hS.swap (by omega) _,(KB.drewW hx).toBut,hNb⟩)
  case rest=>
   obtain⟨bC,s,k,A,c,rfl,hs6,hk1,hk2,kC,hRow,hDk2,hB2,hbC⟩:=hcut;obtain⟨l,full,hget,hnm,hgood,hfull⟩:=zkw hs6 hk1 hk2;rw[hget]at kC hRow;simp only at kC hRow;obtain⟨wa,hwa⟩: ∃wa,wa=wc:=⟨_,rfl⟩;subst hwa;have hdw:=hD.lt;have hltd:=hE0.size_le;have hb2:=Hb2.out;have hb2d:b2∉ [d]:=by simp;omega
   have k2a:=(k2.but hB1 hb2d).but hB2 hb2d;have hBw:But [d] w wa:=((hE0.but _).trans hB1).trans hB2;have hszW:=hE0.size_le;have hszB:=hB1.size;have hlt2:=(k2.but hB1 hb2d).lt;have Hnm:=Lib.hid hnm;have Hgood:=Lib.hid hgood;clear hget hs6 hk1 hk2 hnm hgood hB1 hB2 hE0 hDk hDW hx q1 q1' k2;rcases hfull with⟨rfl,hlast⟩|⟨hf,hlast⟩
   ·have Hlast:=Lib.hid hlast
    clear hlast;have cC:=kC.cell;have lC:=kC.lt;have c2:=k2a.cell;have f2:=k2a.froz;have l2:=k2a.lt;go_wp2_with fail;exact jS (C:=⟨s,l,0,false⟩) ⟨Hnm.out,Hgood.out,Hlast.out⟩ k2a (by omega) hdw hRow (by omega) hDk2 hBw rfl rfl
   ·have Hlast:=Lib.hid hlast
    have q2:decide (0<full)=true:=decide_eq_true hf;clear hlast;have cC:=kC.cell;have lC:=kC.lt;go_wp2_with fail;go_at_call 17;refine(zG d 5 wa hDk2 (by omega) (by omega)).mono ?_;rintro e w3 ⟨y,rfl,hy,hDk3,hB3⟩;clear cC lC q2;have hdlt:=hDk2.lt;have kC3:=qB hB3 hDk2 kC (by decide);have k23:=qB hB3 hDk2 k2a (by decide);have hRow3:=zo hRow hB3 (fun b hb hm=>by have:=(World.ownsRow.lt hRow b hb).1;have:=List.mem_singleton.1 hm;omega);have hBw3:=hBw.trans hB3;have cC:=kC3.cell;have lC:=kC3.lt;have fC:=kC3.froz;have hy64:y<=4:=by omega
    go_upto_region 5 with fail;have kC4:Blk (w3.setCell ⟨bC,2,none⟩ (.int .i64 (1+(y:Int)))) bC 25 #[.string s,.slice A l.length c,.int .i64 (1+(y:Int))]:=kC3.set_ 2 _;have eC:But [bC] w3 (w3.setCell ⟨bC,2,none⟩ (.int .i64 (1+(y:Int)))):=But.setCell (But.refl _ _) (by simp) _;have k24:=k23.but eC (by simp;omega);have hRow4:=ye hRow3 kC3 eC (by decide);have hD4:=hDk3.but eC (fun x hx=>by have:=List.mem_singleton.1 hx;omega);have hBw4:=But.fresh hBw3 (p:=⟨bC,2,none⟩) (by show w.heap.size<=bC;omega) (.int .i64 (1+(y:Int)));clear cC lC fC;generalize w3.setCell ⟨bC,2,none⟩ (.int .i64 (1+(y:Int)))=w4 at*;have cC:=kC4.cell;have lC:=kC4.lt;have c2:=k24.cell;have f2:=k24.froz;have l2:=k24.lt;go_wp2_with fail;exact jS (C:=⟨s,l,1+(y:Int),true⟩) ⟨Hnm.out,Hgood.out,Hlast.out (1+(y:Int)) (by omega) (by omega)⟩ k24 (by omega) hdw hRow4 (by omega) hD4 hBw4 rfl rfl
 ·have hx0:x=0:=by omega
  subst hx0;clear h0 hx;have hdw:=hD.lt;have hb2:=Hb2.out;have hszW:=hE0.size_le;have hszB:=hB1.size;have hb2d:b2∉ [d]:=by simp;omega
  have k2a:=k2.but hB1 hb2d;have hBw:But [d] w w1:=(hE0.but _).trans hB1;clear hB1 hDW k2 hE0;go_wp2_with fail;go_at_call 17;refine(zG d 4 w1 hDk (by omega) (by omega)).mono ?_;rintro e w2 ⟨n0,rfl,hn0,hDk2,hB2⟩;obtain⟨n,hn⟩: ∃n,n0+1=n:=⟨_,rfl⟩;have hnI:(1:Int)+n0=n:=by omega
  have hn4:1<=n∧n<=4:=by omega
  have k2b:=k2a.but hB2 hb2d;have hBw2:=hBw.trans hB2;have hsz2:=hB2.size;clear hB2 hBw hDk k2a hn0 hn;go_upto_region 8 with fail;refine yN (fun W3 k6 hE3=> ?_);obtain⟨b6,hb6⟩: ∃b,w2.heap.size=b:=⟨_,rfl⟩;have hlt6:=k2b.lt;rw[hb6]at k6 hlt6|-;clear hb6;have hI:OwI w d b2 b6 W3.heap.size 0 [] 0 none 0 W3:=⟨k2b.ext hE3,k6,zP _ _ _ _,hDk2.ext hE3,hBw2.trans (hE3.but _)⟩;have hsz3:=hE3.size_le;have hlt63:=k6.lt;obtain⟨N0,hN0⟩: ∃N0,W3.heap.size=N0:=⟨_,rfl⟩;rw[hN0]at hI hlt63;have HN:=Lib.hid hN0;have hb:d<w.heap.size∧w.heap.size<=b2∧b2<b6∧b6<N0:=⟨hdw,by omega,hlt6,hlt63⟩;have Hn4:=Lib.hid hn4;clear k2b k6 hE3 hBw2 hDk2 hN0 hsz3 hsz2 hszW hszB hb2d hb2 hlt6 hlt63;have hst:=OwnR.start n hn4.1;have hsf:=fun(a:Addr) (x:Nat) (W:World)=>run_store Tryz.prog W a (.float .f64 x) .plain rfl
  go_wp2_with fail;go_loopw [7] (fun i wr=> ∃(k:Nat) (l:List (Nat×Int×Int×Int)) (f:Int) (B:Option Addr) (c:Nat),k<=n∧i= .int .i64 k∧OwnR l n k f∧N0<=wr.heap.size∧OwI w d b2 b6 N0 k l f B c wr) (fun i _=>n-(intOf i).toNat);case atStart=>exact⟨0,[],0,none,0,by omega,rfl,hst,by have:=HN.out;omega,hI⟩
  case round=>
   clear hI hst;obtain⟨k,l,f,B,c,hk,rfl,hR,hNr,hI⟩:=hrel;by_cases hkn:k<n
   ·have q1:decide ((k:Int)<(n:Int))=true:=by simp;omega
    have q1':decide (k<n)=true:=by simp;omega
    go_wp2_with fail;go_at_call 17;refine(zG d 3 wr hI.dk (by omega) (by omega)).mono ?_;rintro e w4 ⟨y,rfl,hy,hDk4,hB4⟩;have hdN:d<N0:=by omega
    have hI4:=hI.next hB4 hDk4 hdN;have hN4:=Nat.le_trans hNr hB4.size;clear hI hB4 hDk4 hNr;go_upto_region 12 with fail;refine yN (fun W5 kT hE5=> ?_);have hX:=hI4.rule hN4 hE5 kT;obtain⟨bT,hbT⟩: ∃b,w4.heap.size=b:=⟨_,rfl⟩;rw[hbT]at hX|-;have hN5:=Nat.le_trans hN4 hE5.size_le;clear hbT kT hE5 hI4 hN4;go_wp2_with fail;go_at_call 17;refine(zG d 3 W5 hX.i.dk (by omega) (by omega)).mono ?_;rintro e w6 ⟨z,rfl,hz,hDk6,hB6⟩;have hX6:=hX.next hB6 hDk6 hdN;have hN6:=Nat.le_trans hN5 hB6.size;clear hX hB6 hDk6 hN5;obtain⟨zb,hzb⟩: ∃zb,decide ((0:Int)<(z:Int))=zb:=⟨_,rfl⟩;have hzb':decide (0<z)=zb:=by rw[<-hzb];simp
    go_upto_if 53 with fail;clear hzb hzb' q1 q1';go_cut [] (fun wx=> ∃x:Nat,okX x=true∧(x=0∨FloatKind.f64.format.order x 0=some .gt)∧OwX w d b2 b6 N0 k l f B c bT x 0 y ((k:Int)+1) wx)
    case first=>
     cases zb
     ·go_wp2_with fail
      go_meet;exact⟨0,zr7,.inl rfl,hX6⟩
     ·go_wp2_with fail
      go_at_call 24;refine(zkv d w6 hX6.i.dk).mono ?_;rintro e w7 ⟨x,rfl,hx,hxo,hDk7,hB7⟩;have hX7:=hX6.next hB7 hDk7 hdN;clear hX6 hB7 hDk7;have cT:=hX7.kT.cell;have lT:=hX7.kT.lt;have fT:=hX7.kT.froz;go_wp2_with fail;go_meet;exact⟨x,hx,.inr hxo,hX7.set hb 0 (.float .f64 x) rfl⟩
    case rest=>
     clear hX6 hN6 hz;obtain⟨x,hx,hxo,hX⟩:=hcut;by_cases hl:k+1=n
     ·have q2:decide ((k:Int)<(n:Int) -1)=false:=by simp;omega
      have q3:((k:Int)==(n:Int) -1)=true:=by rw[beq_iff_eq];omega
      have Hl:=Lib.hid hl;clear hl;have cT:=hX.kT.cell;have lT:=hX.kT.lt;have fT:=hX.kT.froz;go_upto_region 18 with fail;have hX2:=hX.set hb 3 (.int .i64 (k:Int)) (x':=x) (li':=0) (ba':=y) (tg':=(k:Int)) rfl;clear cT lT fT hX q2 q3;generalize wc.setCell ⟨bT,3,none⟩ (.int .i64 (k:Int))=w8 at*;have cT:=hX2.kT.cell;have lT:=hX2.kT.lt;rcases hxo with rfl|hxo
      ·have q4:FloatKind.f64.format.order 0 0=some .eq:=zdi
       go_wp2_with fail;go_at_call 17;refine(zG d 6 w8 hX2.i.dk (by omega) (by omega)).mono ?_;rintro e w9 ⟨z,rfl,hz,hDk9,hB9⟩;have hX3:=hX2.next hB9 hDk9 hdN;clear cT lT q4 hX2 hB9 hDk9;have c6:=hX3.i.k6.cell;have l6:=hX3.i.k6.lt;have f6:=hX3.i.k6.froz;go_upto_region 20 with fail;have hX:=hX3.setF hb (1+(z:Int));clear c6 l6 f6 hX3;generalize w9.setCell ⟨b6,2,none⟩ (.int .i64 (1+(z:Int)))=wx at*;have hS:=hR.step (x:=0) (li:=0) (ba:=(y:Int)) (tg:=(k:Int)) (f':=1+(z:Int)) hkn hx (by omega) (by omega) (fun h=>by have:=Hl.out;omega) (fun _=>⟨rfl,rfl,true,.inl ⟨rfl,zdi,by omega,by omega⟩⟩);have hIx:=hX.i;have hrow:=hIx.row;have k6:=hIx.k6;have c6:=k6.cell;have l6:=k6.lt;have cT:=hX.kT.cell;have lT:=hX.kT.lt;have hlen:=hR.len;have hk4:=Hn4.out.2;have hNx:=Nat.le_of_lt (Nat.lt_of_le_of_lt hX.lo lT);go_wp2_with(first|(at_builtin;refine zJ rfl Tryz.elR _ _ rfl N0 _ _ _ rfl (z8 hrow _) _ 1 1 _ rfl (yF _ [_,_,_,_] 79 1 4 rfl) (by simp[Value.oneCell']) (by omega) (by omega) (by(first|omega|(simp;done)|(simp;omega))) ?_;intro A2 a2 w2 hown3 hg2 hat2;have k62:=hIx.k6a hb (Ext.alloc (Ext.refl _) _) hg2;have c62:=k62.cell;have l62:=k62.lt;have f62:=k62.froz));go_roundw;case rel=>exact⟨k+1,l++ [(0,(0:Int),(y:Int),(k:Int))],1+(z:Int),A2,a2,by omega,by go_num,hS,by have:=hb.2.2.2;have:=k62.lt;have:=hg2.size;simp at this|-;omega,hIx.app hb (Ext.alloc (Ext.refl _) _) hg2 hown3⟩
       case measure=>simp[intOf];omega
      ·have hf0:=hR.f0 hkn
       subst hf0;have q4:=hxo;go_upto_region 20 with fail;have hX:=hX2;clear cT lT hX2 q4;have hS:=hR.step (x:=x) (li:=0) (ba:=(y:Int)) (tg:=(k:Int)) (f':=0) hkn hx (by omega) (by omega) (fun h=>by have:=Hl.out;omega) (fun _=>⟨rfl,rfl,false,.inr ⟨rfl,hxo,rfl⟩⟩);have hIx:=hX.i;have hrow:=hIx.row;have k6:=hIx.k6;have c6:=k6.cell;have l6:=k6.lt;have cT:=hX.kT.cell;have lT:=hX.kT.lt;have hlen:=hR.len;have hk4:=Hn4.out.2;have hNx:=Nat.le_of_lt (Nat.lt_of_le_of_lt hX.lo lT);go_wp2_with(first|(at_builtin;refine zJ rfl Tryz.elR _ _ rfl N0 _ _ _ rfl (z8 hrow _) _ 1 1 _ rfl (yF _ [_,_,_,_] 79 1 4 rfl) (by simp[Value.oneCell']) (by omega) (by omega) (by(first|omega|(simp;done)|(simp;omega))) ?_;intro A2 a2 w2 hown3 hg2 hat2;have k62:=hIx.k6a hb (Ext.alloc (Ext.refl _) _) hg2;have c62:=k62.cell;have l62:=k62.lt;have f62:=k62.froz));go_roundw;case rel=>exact⟨k+1,l++ [(x,(0:Int),(y:Int),(k:Int))],0,A2,a2,by omega,by go_num,hS,by have:=hb.2.2.2;have:=k62.lt;have:=hg2.size;simp at this|-;omega,hIx.app hb (Ext.alloc (Ext.refl _) _) hg2 hown3⟩
       case measure=>simp[intOf];omega
     ·have q2:decide ((k:Int)<(n:Int) -1)=true:=by simp;omega
      have q3:((k:Int)==(n:Int) -1)=false:=by rw[beq_eq_false_iff_ne];omega
      have hl':k+1<n:=by omega
      have hf0:=hR.f0 hkn;subst hf0;go_wp2_with fail;go_at_call 17;refine(zG d 3 wc hX.i.dk (by omega) (by omega)).mono ?_;rintro e w6 ⟨z,rfl,hz,hDk6,hB6⟩;have hX2:=hX.next hB6 hDk6 hdN;clear hX hB6 hDk6;by_cases hz0:z=0
      ·subst hz0
       have q4:(((0:Nat):Int)==0)=true:=by decide
       go_wp2_with fail;go_at_call 17;refine(zG d 2 w6 hX2.i.dk (by omega) (by omega)).mono ?_;rintro e w7 ⟨v,rfl,hv,hDk7,hB7⟩;have hX3:=hX2.next hB7 hDk7 hdN;clear hX2 hB7 hDk7 q4;have cT:=hX3.kT.cell;have lT:=hX3.kT.lt;have fT:=hX3.kT.froz;go_upto_region 20 with fail;have hX:=hX3.set hb 1 (.int .i64 (1+(v:Int))) (x':=x) (li':=1+(v:Int)) (ba':=y) (tg':=(k:Int)+1) rfl;clear cT lT fT hX3;generalize w7.setCell ⟨bT,1,none⟩ (.int .i64 (1+(v:Int)))=wx at*;have hS:=hR.step (x:=x) (li:=1+(v:Int)) (ba:=(y:Int)) (tg:=(k:Int)+1) (f':=0) hkn hx (by omega) (by omega) (fun h=>⟨by omega,rfl⟩) (fun h=>by omega);have hIx:=hX.i;have hrow:=hIx.row;have k6:=hIx.k6;have c6:=k6.cell;have l6:=k6.lt;have cT:=hX.kT.cell;have lT:=hX.kT.lt;have hlen:=hR.len;have hk4:=Hn4.out.2;have hNx:=Nat.le_of_lt (Nat.lt_of_le_of_lt hX.lo lT);go_wp2_with(first|(at_builtin;refine zJ rfl Tryz.elR _ _ rfl N0 _ _ _ rfl (z8 hrow _) _ 1 1 _ rfl (yF _ [_,_,_,_] 79 1 4 rfl) (by simp[Value.oneCell']) (by omega) (by omega) (by(first|omega|(simp;done)|(simp;omega))) ?_;intro A2 a2 w2 hown3 hg2 hat2;have k62:=hIx.k6a hb (Ext.alloc (Ext.refl _) _) hg2;have c62:=k62.cell;have l62:=k62.lt;have f62:=k62.froz));go_roundw;case rel=>exact⟨k+1,l++ [(x,1+(v:Int),(y:Int),(k:Int)+1)],0,A2,a2,by omega,by go_num,hS,by have:=hb.2.2.2;have:=k62.lt;have:=hg2.size;simp at this|-;omega,hIx.app hb (Ext.alloc (Ext.refl _) _) hg2 hown3⟩
       case measure=>simp[intOf];omega
      ·have q4:((z:Int)==0)=false:=by rw[beq_eq_false_iff_ne];omega
       go_upto_region 20 with fail;have hX:=hX2;clear hX2 q4;have hS:=hR.step (x:=x) (li:=0) (ba:=(y:Int)) (tg:=(k:Int)+1) (f':=0) hkn hx (by omega) (by omega) (fun h=>⟨by omega,rfl⟩) (fun h=>by omega);have hIx:=hX.i;have hrow:=hIx.row;have k6:=hIx.k6;have c6:=k6.cell;have l6:=k6.lt;have cT:=hX.kT.cell;have lT:=hX.kT.lt;have hlen:=hR.len;have hk4:=Hn4.out.2;have hNx:=Nat.le_of_lt (Nat.lt_of_le_of_lt hX.lo lT);go_wp2_with(first|(at_builtin;refine zJ rfl Tryz.elR _ _ rfl N0 _ _ _ rfl (z8 hrow _) _ 1 1 _ rfl (yF _ [_,_,_,_] 79 1 4 rfl) (by simp[Value.oneCell']) (by omega) (by omega) (by(first|omega|(simp;done)|(simp;omega))) ?_;intro A2 a2 w2 hown3 hg2 hat2;have k62:=hIx.k6a hb (Ext.alloc (Ext.refl _) _) hg2;have c62:=k62.cell;have l62:=k62.lt;have f62:=k62.froz));go_roundw;case rel=>exact⟨k+1,l++ [(x,(0:Int),(y:Int),(k:Int)+1)],0,A2,a2,by omega,by go_num,hS,by have:=hb.2.2.2;have:=k62.lt;have:=hg2.size;simp at this|-;omega,hIx.app hb (Ext.alloc (Ext.refl _) _) hg2 hown3⟩
       case measure=>simp[intOf];omega
   ·have q1:decide ((k:Int)<(n:Int))=false:=by simp;omega
    have q1':decide (k<n)=false:=by simp;omega
    have hkn':k=n:=by omega
    subst hkn';obtain⟨z,hz⟩:=hR.ok_ Hn4.out;have Hz:=Lib.hid hz;have hl:=hR.len;subst hl;clear hz hR hkn;have k6:=hI.k6;have c6:=k6.cell;have l6:=k6.lt;have c2:=hI.k2.cell;have f2:=hI.k2.froz;have l2:=hI.k2.lt;go_wp2_with fail;exact jS (C:=⟨znp,l,f,z⟩) Hz.out hI.k2 hb.2.1 hdw hI.row (by have:=HN.out;omega) hI.dk hI.but rfl rfl
end Go.Proofs.YtopcdfbplknmlaaGreat
