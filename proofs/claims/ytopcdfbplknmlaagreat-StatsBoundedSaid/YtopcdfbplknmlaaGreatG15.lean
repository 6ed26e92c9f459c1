/- The walk of step.Do (reference). Conditions: the ranges that each theorem states. -/
import Derived.Test.YtopcdfbplknmlaaGreatL
import Derived.Test.YtopcdfbplknmlaaGreatG13
import Derived.Test.YtopcdfbplknmlaaGreatG14
import Derived.Test.YtopcdfbplknmlaaGreatG6
set_option linter.all false
set_option maxHeartbeats 16000000
set_option maxRecDepth 100000
namespace Go.Proofs.YtopcdfbplknmlaaGreat
open Go.RowKit Go.Draw
theorem yg(a:Addr):loadCellsFrom a 0 22 #[]=xc a 22:=rfl
theorem zhk(a:Addr):loadCellsFrom a 0 5 #[]=xc a 5:=rfl
theorem qW(a:Addr):loadCellsFrom a 0 3 #[]=xc a 3:=rfl
def kx(l:List Inc):Int:=(l.map (·.w)).sum
def xf(w:World)(N B:Nat)(P:Hpl)(l:List Inc)(nb:Nat)(r:Ending)(w':World):Prop:=
 ∃(xs:Array Value) (r0 r1 r2 r3 e:Int),r= .returned (.tuple #[.agg xs,.agg #[.int .i64 r0,.int .i64 r1,.int .i64 r2,.int .i64 r3],.int .i64 e])∧xs.size=22∧xs.all (·.oneCell')=true∧Ext w w'∧
  (e≠0∨e=0∧∃(P':Hpl) (M':Hmm) (t:Nat) (rr:Nat×Int×Int×Int),xs=ze P' M'∧HO w' 0 P' M'∧w.heap.size<=M'.gW∧w.heap.size<=M'.gF∧Ap P' M'∧BO w' w.heap.size M'.A M'.c M'.vs P'.Q∧(∃I',Hv (N+1) P' B I')∧P.C.l[nb]? =some rr∧rr.2.2.2=(t:Int)∧t<P.Q.length∧Stp P P' (l.map (·.q)) t∧P'.k.cd=P.k.cd+kx l)
attribute [local go_sem↓] yg zhk qW xd yx in
attribute [local go_sem] xe in
theorem zm5{Q:Ending->World->Prop}{a:Act}{W:World}{g4 g5:Nat}{xs:Array Value}{v0 v1 v2 v3 t6:Value}(hd:a.defers= [])(h4:a.tmps[4]?.getD undef= .pointer (some ⟨g4,0,none⟩))(h5:a.tmps[5]?.getD undef= .pointer (some ⟨g5,0,none⟩))(h6:a.tmps[6]?.getD undef=t6)
 (k4:Blk W g4 38 xs) (h:xs.size=22) (k5:Blk W g5 176 #[v0,v1,v2,v3]) (hQ:Q (.returned (.tuple #[.agg xs,.agg #[v0,v1,v2,v3],t6])) W):bodyPost Tryz.prog Tryz.f96 Q Exit.ret a W:=by
 have hl:=zj k4 h;have c5:=k5.cell;exact bodyPost_ret (v:= .tuple #[.agg xs,.agg #[v0,v1,v2,v3],t6]) (by simp[results,Tryz.results96,h4,h5,h6,go_sem,hl,c5]) hd hQ
theorem xB(w:World)(zs:Array Value)(i:Inc)(hz:zs.size=5):(yw ⟨w.heap.size,0,none⟩ i.a.toList).run Tryz.prog (w.alloc (.cells zs 144))= .ok () (w.alloc (.cells i.a 144)):=
 run_storeCells_new (P:=Tryz.prog) w 144 zs i.a (by kernel_rfl) (by rw[hz];rfl) (by simp[Inc.a,Value.oneCell'])
theorem qP{w:World}{b:Nat}{i:Inc}(k:Blk w b 144 i.a):(xc ⟨b,0,none⟩ 5).run Tryz.prog w= .ok i.a w:=by
 have:=yd k 0 5 i.a.toList rfl (fun j v hv=>by simpa using hv);simpa using this
def y0:Array Value:= #[.string ⟨#[]⟩,.slice none 0 0,.int .i64 0,.int .i64 0,.slice none 0 0,.slice none 0 0,.slice none 0 0,.int .i64 0,.slice none 0 0,.slice none 0 0,.slice none 0 0,.int .i64 0,.int .i64 0,.int .i64 0,.int .i64 0,.int .i64 0,.int .i64 0,.int .i64 0,.int .i64 0,.int .i64 0,.int .i64 0,.bool false]
theorem jA:y0.all (·.oneCell')=true:=by simp[y0,Value.oneCell']
theorem ky{w:World}{A:Option Addr}{n:Nat}{l:List Inc}(h:Rd w A n 5 (zQ l)){k:Nat}{i:Inc}(hk:l[k]? =some i):
 ∃b o,A=some ⟨b,o,none⟩∧b<w.heap.size∧(xc ⟨b,o+k*5,none⟩ 5).run Tryz.prog w= .ok i.a w:=by
 obtain⟨b,o,he,d0,d1,d2,d3,d4⟩:=xo h hk;refine⟨b,o,he,zh d0,?_⟩
 have:=run_loadCells_list (P:=Tryz.prog) w ⟨b,o+k*5,none⟩ i.a.toList (fun j v hv=>by
  have hadd:(⟨b,o+k*5,none⟩:Addr).add j=⟨b,o+k*5+j,none⟩:=by unfold Addr.add;split<;>simp_all
  rw[hadd]
  match j,hv with
  |0,hv=>simp[Inc.a]at hv;subst hv;exact d0
  |1,hv=>simp[Inc.a]at hv;subst hv;exact d1
  |2,hv=>simp[Inc.a]at hv;subst hv;exact d2
  |3,hv=>simp[Inc.a]at hv;subst hv;exact d3
  |4,hv=>simp[Inc.a]at hv;subst hv;exact d4
  |j+5,hv=>simp[Inc.a]at hv)
 unfold xc;simpa[loadCells,Inc.a]using this
theorem kz{w:World}{b:Nat}{v0 v1 v2 v3:Value}(k:Blk w b 176 #[v0,v1,v2,v3])(a0 a1 a2 a3:Int):(yw ⟨b,0,none⟩ [.int .i64 a0,.int .i64 a1,.int .i64 a2,.int .i64 a3]).run Tryz.prog w= .ok () (w.setCells b 0 [.int .i64 a0,.int .i64 a1,.int .i64 a2,.int .i64 a3]):=
 yE k 0 _ (by simp) (by simp[Value.oneCell'])
theorem y7{w w':World}{b:Nat}(h:Ext w w')(hb:w.heap.size<=b)(xs:Array Value):Ext w (w'.setRow b xs):=But.ext h (zD w' b xs) (fun q hq=>by have:=List.mem_singleton.1 hq;omega)
theorem zdb{l:List Inc}{j:Nat}{i:Inc}(h:l[j]? =some i):kx (l.take (j+1))=kx (l.take j)+i.w:=by
 unfold kx;rw[List.take_add_one,h];simp
theorem zi5{i:Inc}(h: ∃(x:Ch) (wd:Nat),i=ke (x,wd)∧wd<=100000):0<=i.w∧i.w<=100000:=by
 obtain⟨x,wd,rfl,hw⟩:=h;show 0<=(wd:Int)∧(wd:Int)<=100000;omega
theorem kA{l:List Inc}(h: ∀i∈l,∃(x:Ch) (wd:Nat),i=ke (x,wd)∧wd<=100000): ∀j:Nat,0<=kx (l.take j)∧kx (l.take j)<=j*100000
 |0=>by simp[kx]
 |j+1=>by
  have ih:=kA h j;cases hi:l[j]? with
  |none=>
   rw[List.take_of_length_le (by have:=List.getElem?_eq_none_iff.1 hi;omega)];rw[List.take_of_length_le (by have:=List.getElem?_eq_none_iff.1 hi;omega)]at ih;omega
  |some i=>
   rw[zdb hi];have:=zi5 (h i (List.mem_of_getElem? hi));omega
theorem zb0{w:World}{A:Option Addr}{n:Nat}{hs:List Nat}(h:Rd w A n 1 (yb (yB hs))){k x:Nat}(hk:hs[k]? =some x): ∃b o,A=some ⟨b,o,none⟩∧w.cell? ⟨b,o+k,none⟩=some (.int .i64 x):=by
 have hl:=(List.getElem?_eq_some_iff.1 hk).1;have h1:=h.1;simp only[yb,yB,List.length_map,Nat.mul_one]at h1;obtain⟨b,o,e,hc⟩:=h.2 (by omega);exact⟨b,o,e,hc k _ (by simp[yb,yB,hk])⟩
theorem zm6{S:Sp}{B:Nat}{I:List In}{ss:List St}{us:List Bool}{rs:List Int}(h:Vh S B I ss us rs): ∀(k:Nat) (v:Int),rs[k]? =some v->v=0∨∃t:Nat,v=(t:Int)+1∧t<S.ws.length:=fun _ _ hv=>h.hok.lay.ad (zi4 h.rt hv)
theorem zm7{S:Sp}{B:Nat}{I:List In}{ss:List St}{us:List Bool}{rs:List Int}(h:Vh S B I ss us rs): ∀x∈ss,∀t∈x.l,t<S.ws.length∧(S.w t=0∨∃u:Nat,S.w t=(u:Int)+1∧u<S.ws.length):=fun x hx t ht=>by
 obtain⟨b,hb,e,he,rfl,_⟩:=h.ss x hx t ht;refine⟨?_,h.hok.lay.ad (h.hok.refs b hb e he)⟩;obtain⟨i,hi,b',hb',rfl⟩:=zK.1 hb;obtain⟨F,_,_,_,_,hlt⟩:=h.hok.lay.owner hi hb' (k:=1+e) (by have:e<b'.r:=he;unfold Ob.n;omega);exact hlt
theorem zq2{w:World}{base n size c:Nat}{A:Option Addr}{e:TypeId}{xs:List Value}(h:w.ownsRow base e size (.slice A n c) n xs)(hn:0<n): ∃g,A=some ⟨g,0,none⟩:=by
 rcases h.2 with⟨h0,h1⟩|⟨g,cap,cur,hv,_⟩
 ·omega
 ·injection hv with hv
  exact⟨g,hv⟩
theorem vx{w w':World}{base b2 n size gW cW gF cF:Nat}{S:Sp}{v:Value}{e:TypeId}{xs:List Value}(h:w.ownsRow base e size v n xs)(hS:SOw w b2 S gW cW gF cF)(hB:But [gW,gF] w w')(h1:e≠67)(h2:e≠118):w'.ownsRow base e size v n xs:=zo h hB fun b hb hm=>by
 rcases List.mem_cons.1 hm with rfl|hm
 ·exact yk h hS.W h1 hb rfl
 ·have:=List.mem_singleton.1 hm
  subst this;exact yk h hS.F h2 hb rfl
theorem kD{w:World}{base base' n n' size size' g c:Nat}{v:Value}{e e':TypeId}{xs xs':List Value}(h:w.ownsRow base e size v n xs)(h':w.ownsRow base' e' size' (.slice (some ⟨g,0,none⟩) n' c) n' xs')(hne:e≠e'): ∀b,v.ownBlock=some b->b∉ [g]:=fun b hb hm=>by
 have:=List.mem_singleton.1 hm;subst this;exact yk h h' hne hb rfl
theorem BO.sp{w w':World}{base b2 c gW cW gF cF:Nat}{S:Sp}{A:Option Addr}{vs:List Value}{Q:List (List Inc)}(h:BO w base A c vs Q)(hS:SOw w b2 S gW cW gF cF)(hB:But [gW,gF] w w'):BO w' base A c vs Q:=
 ⟨h.vl,vx h.out hS hB (by decide) (by decide),fun i v q hv hq=>vx (h.each i v q hv hq) hS hB (by decide) (by decide),h.apart⟩
theorem SetO.sp{w w':World}{base b2 c gW cW gF cF:Nat}{S:Sp}{A:Option Addr}{ps:List (St×Value)}(h:SetO w base A c ps)(hS:SOw w b2 S gW cW gF cF)(hB:But [gW,gF] w w'):SetO w' base A c ps:=
 ⟨vx h.out hS hB (by decide) (by decide),fun p hp=>vx (h.each p hp) hS hB (by decide) (by decide)⟩
theorem BO.nin{w w':World}{base b2 n size c c' g:Nat}{A:Option Addr}{vs:List Value}{Q:List (List Inc)}{xs:List Value}(h:BO w base A c vs Q)(h':w.ownsRow b2 67 size (.slice (some ⟨g,0,none⟩) n c') n xs)(hB:But [g] w w'):BO w' base A c vs Q:=
 ⟨h.vl,zo h.out hB (kD h.out h' (by decide)),fun i v q hv hq=>zo (h.each i v q hv hq) hB (kD (h.each i v q hv hq) h' (by decide)),h.apart⟩
theorem SetO.nin{w w':World}{base b2 n size c c' g:Nat}{A:Option Addr}{ps:List (St×Value)}{xs:List Value}(h:SetO w base A c ps)(h':w.ownsRow b2 67 size (.slice (some ⟨g,0,none⟩) n c') n xs)(hB:But [g] w w'):SetO w' base A c ps:=
 ⟨zo h.out hB (kD h.out h' (by decide)),fun p hp=>zo (h.each p hp) hB (kD (h.each p hp) h' (by decide))⟩
section
variable{w w':World} {base b c:Nat} {xs:Array Value}
theorem y4{n size:Nat}{v:Value}{e:TypeId}{ys:List Value}(h:w.ownsRow base e size v n ys)(k:Blk w b 38 xs)(hB:But [b] w w')(hne:e≠38):w'.ownsRow base e size v n ys:=zo h hB fun x hx hm=>by
 have:=List.mem_singleton.1 hm;subst this;exact zN h k hne hx
theorem ye{n size:Nat}{v:Value}{e t:TypeId}{ys:List Value}{zs:Array Value}(h:w.ownsRow base e size v n ys)(k:Blk w b t zs)(hB:But [b] w w')(hne:e≠t):w'.ownsRow base e size v n ys:=zo h hB fun x hx hm=>by
 have:=List.mem_singleton.1 hm;subst this;exact zN h k hne hx
theorem BO.hp{A:Option Addr}{vs:List Value}{Q:List (List Inc)}(h:BO w base A c vs Q)(k:Blk w b 38 xs)(hB:But [b] w w'):BO w' base A c vs Q:=
 ⟨h.vl,y4 h.out k hB (by decide),fun i v q hv hq=>y4 (h.each i v q hv hq) k hB (by decide),h.apart⟩
theorem SetO.hp{A:Option Addr}{ps:List (St×Value)}(h:SetO w base A c ps)(k:Blk w b 38 xs)(hB:But [b] w w'):SetO w' base A c ps:=
 ⟨y4 h.out k hB (by decide),fun p hp=>y4 (h.each p hp) k hB (by decide)⟩
theorem SOw.hp{gW cW gF cF:Nat}{S:Sp}(h:SOw w base S gW cW gF cF)(k:Blk w b 38 xs)(hB:But [b] w w'):SOw w' base S gW cW gF cF:=⟨y4 h.W k hB (by decide),y4 h.F k hB (by decide)⟩
end
theorem vM{X Y:List Nat}{w w':World}(h:But X w w')(hs: ∀x∈X,x∈Y):But Y w w':=⟨h.os,h.tape,h.output,h.size,fun k hk hn=>h.block k hk (fun hm=>hn (hs k hm))⟩
theorem zi6(P:Hpl)(M:Hmm)(S':Sp)(h1:S'.ws.length=P.S.ws.length)(h2:S'.fs.length=P.S.fs.length)(h3:S'.sh=P.S.sh):ze {P with S:=S'} M=ze P M:=by simp only[ze,h1,h2,h3]
theorem zpk{w:World}{base b2 b n size gW cW gF cF:Nat}{v:Value}{e:TypeId}{xs:List Value}{cs:Array Value}{S:Sp}(h:w.ownsRow base e size v n xs)(k:Blk w b 38 cs)(hS:SOw w b2 S gW cW gF cF)(h1:e≠67)(h2:e≠118)(h3:e≠38): ∀x,v.ownBlock=some x->x∉ [b,gW,gF]:=fun x hx hm=>by
 simp only[List.mem_cons,List.not_mem_nil,or_false]at hm;rcases hm with rfl|rfl|rfl
 ·exact zN h k h3 hx
 ·exact yk h hS.W h1 hx rfl
 ·exact yk h hS.F h2 hx rfl
theorem qt{w:World}{b:Nat}{xs:Array Value}(h:xs.size=22)(hc: ∀j v,xs[j]? =some v->w.cell? ⟨b,j,none⟩=some v):(xc ⟨b,0,none⟩ 22).run Tryz.prog w= .ok xs w:=by
 have:=run_loadCells_list (P:=Tryz.prog) w ⟨b,0,none⟩ xs.toList (fun j v hv=>by
  have hadd:(⟨b,0,none⟩:Addr).add j=⟨b,j,none⟩:=by unfold Addr.add;split<;>simp_all
  rw[hadd];exact hc j v (by simpa using hv))
 simp only[loadCells,Array.length_toList,h,Array.toArray_toList]at this;exact this
theorem zhl{w W:World}{N B nb b4 b5:Nat}{P:Hpl}{l:List Inc}{a:Act}{xs4:Array Value}{v0 v1 v2 v3:Value}{e:Int}(k4:Blk W b4 38 xs4)(k5:Blk W b5 176 #[v0,v1,v2,v3])(hn:b5≠b4)(h:Ext w W)(h4w:w.heap.size<=b4)(h5w:w.heap.size<=b5)(he:e≠0)
 (hd:a.defers= []) (h4:a.tmps[4]?.getD undef= .pointer (some ⟨b4,0,none⟩)) (h5:a.tmps[5]?.getD undef= .pointer (some ⟨b5,0,none⟩)) (h6:a.tmps[6]?.getD undef= .int .i64 e):
 bodyPost Tryz.prog Tryz.f96 (xf w N B P l nb) Exit.ret a ((W.setRow b4 y0).setCells b5 0 [.int .i64 0,.int .i64 0,.int .i64 0,.int .i64 0]):=by
 have e1:=zD W b4 y0;have k4a:Blk (W.setRow b4 y0) b4 38 y0:=setRow_heap W b4 _ y0 38 (0,0) k4;have k5a:=k5.but e1 (by simpa using hn);have e2:But [b5] (W.setRow b4 y0) ((W.setRow b4 y0).setCells b5 0 [.int .i64 0,.int .i64 0,.int .i64 0,.int .i64 0]):=But.setCell (But.setCell (But.setCell (But.setCell (But.refl _ _) (by simp) _) (by simp) _) (by simp) _) (by simp) _;have k5b:Blk ((W.setRow b4 y0).setCells b5 0 [.int .i64 0,.int .i64 0,.int .i64 0,.int .i64 0]) b5 176 #[.int .i64 0,.int .i64 0,.int .i64 0,.int .i64 0]:=(((k5a.set_ 0 _).set_ 1 _).set_ 2 _).set_ 3 _;refine zm5 hd h4 h5 h6 (k4a.but e2 (by simpa using fun e=>hn e.symm)) rfl k5b ⟨y0,0,0,0,0,e,rfl,rfl,jA,?_,.inl he⟩;exact But.ext (y7 h h4w _) e2 (fun q hq=>by have:=List.mem_singleton.1 hq;omega)
attribute [local go_sem↓] yg zhk qW xd yx in
attribute [local go_sem] xe in
theorem zq3(N B nb d:Nat)(P:Hpl)(M:Hmm)(I:List In)(D:Option Addr)(l q0:List Inc)(w:World)(h:HO w 0 P M)(hv:Hv N P B I)(hN:N<=1000000)(hl:w.ownsRow 0 144 5 (.slice D l.length d) l.length (zQ l))(hl1:1<=l.length)(hl2:l.length<=1000)(hq0:P.Q[nb]? =some q0)(hin: ∀i∈l,i∈q0):
 Calls Tryz.prog 96 #[.agg (ze P M),.slice D l.length d] w (xf w N B P l nb):=by
 have Hg:=Lib.hid hv.gd;have Hv0:=Lib.hid hv;have hinF: ∀i∈l,i∈P.Q.flatten:=fun i hi=>List.mem_flatten.2 ⟨q0,List.mem_of_getElem? hq0,hin i hi⟩
 have Hin:=Lib.hid (show∀i∈l,i.b=(nb:Int)∧P.Q.flatten.find? (fun j=>decide (j.q=i.q))=some i from fun i hi=>⟨hv.bt.qb nb q0 hq0 i (hin i hi),zda (hv.bt.nd hv.vh.hok.lay) (hinF i hi)⟩);have HinF:=Lib.hid hinF;have hnb:=(List.getElem?_eq_some_iff.1 hq0).1;have Hq0:=Lib.hid hq0;have Hin0:=Lib.hid hin;clear hv hin hinF hq0;go_enter Tryz.func96,Tryz.ntmps96;go_upto_region 1 with fail;refine zkc (fun W k2 k4 k5 hE0=> ?_);obtain⟨b2,hb2⟩: ∃b,w.heap.size=b:=⟨_,rfl⟩;rw[hb2]at k2 k4 k5|-;have Hb2:=Lib.hid hb2;clear hb2;obtain⟨b4,hb4⟩: ∃b,b2+1=b:=⟨_,rfl⟩;rw[hb4]at k4 k5|-;have hlc:=zj k2 (za P M);go_wp2_with fail;go_at_call 107;refine(zhh P M nb d D l W (h.ext hE0) Hg.out (Rd.of_own (zm hl hE0)) hl1 hl2 Hin.out hnb).mono ?_;rintro e w1 ⟨ti,e1,rfl,hE1,hto⟩;clear hlc;have hE:=hE0.trans hE1;replace k2:=k2.ext hE1;replace k4:=k4.ext hE1;replace k5:=k5.ext hE1;clear hE1 hE0;have hsi:=fun zs hz=>xB w1 zs ti hz
 go_upto_region 2 with fail;clear hsi;refine yN (fun W1 k7 hE1=> ?_);have hlt7:=k5.lt;obtain⟨b7,hb7⟩: ∃b,w1.heap.size=b:=⟨_,rfl⟩;rw[hb7]at k7 hlt7|-;clear hb7;replace hE:=hE.trans hE1;replace k2:=k2.ext hE1;replace k4:=k4.ext hE1;replace k5:=k5.ext hE1;clear hE1;have hsz1:=hE.size_le;by_cases he1:e1=0
 case neg=>
  have he1':(e1 !=0)=true:=by simpa using he1
  have hst:=zO k4 rfl (xs:=y0) rfl jA;have hst2:=kz (k5.but (zD W1 b4 y0) (by simp)) 0 0 0 0;simp only[y0]at hst hst2;have He1:=Lib.hid he1;clear he1;go_wp2_with fail;have hb2:=Hb2.out;exact zhl k4 k5 (by omega) hE (by omega) (by omega) He1.out rfl rfl rfl rfl
 case pos=>
 subst he1
 obtain⟨hpre,t,rr,hrr,hrt,hto⟩:vJ P.Q.flatten (l.map (·.q))=true∧∃(t:Nat) (rr:Nat×Int×Int×Int),P.C.l[nb]? =some rr∧rr.2.2.2=(t:Int)∧(ti=⟨P.sq,t,-1,-1,0⟩∨∃q,P.Q[t]? =some q∧q.getLast? =some ti∧∀x∈l,x.q≠ti.q):=by
  rcases hto with h0|⟨_,h1⟩
  ·exact absurd rfl h0
  ·exact h1
 have Hpre:=Lib.hid hpre;have Hrr:=Lib.hid hrr;have Hrt:=Lib.hid hrt;have Hto:=Lib.hid hto;clear hpre hrr hrt hto;go_upto_region 6 with fail;refine yN (fun W2 k10 hE1=> ?_);have hlt10:=k7.lt;obtain⟨b10,hb10⟩: ∃b,W1.heap.size=b:=⟨_,rfl⟩;rw[hb10]at k10 hlt10 hsz1|-;clear hb10;replace hE:=hE.trans hE1;replace k2:=k2.ext hE1;replace k4:=k4.ext hE1;replace k5:=k5.ext hE1;replace k7:=k7.ext hE1;clear hE1;have hb10w:w.heap.size<=b10:=hsz1;go_wp2_with fail;go_loopw [9,43] (fun z i wr=> ∃(j:Nat) (z9:Int),j<=l.length∧i= .int .i64 j∧z= .int .i64 z9∧Blk wr b10 176 #[.int .i64 (kx (l.take j)),.int .i64 0,.int .i64 0,.int .i64 0]∧But [b10] W2 wr) (fun _ i _=>l.length-(intOf i).toNat);case atStart=>exact⟨0,0,by omega,rfl,rfl,k10,But.refl _ _⟩
 case round=>
  clear k10;obtain⟨j,z9,hj,rfl,rfl,k10,hB⟩:=hrel;have hEr:Ext w wr:=But.ext hE hB (fun q hq=>by have:=List.mem_singleton.1 hq;omega);have k2r:=k2.but hB (by simp;omega);by_cases hjl:j<l.length
  ·as_aux_lemma=>
   have hjec:decide ((j:Int)<l.length)=true:=by simp;omega
   have hjec':decide (j<l.length)=true:=by simp;omega
   have hjI:(j:Int)<l.length:=by omega
   obtain⟨i,hi⟩: ∃i,l[j]? =some i:=⟨_,List.getElem?_eq_getElem hjl⟩;obtain⟨bD,oD,he,lD,hld⟩:=ky (Rd.of_own (zm hl hEr)) hi;subst he;have hsi:=fun zs hz=>xB wr zs i hz
   have Hi:=Lib.hid hi;clear hi;go_upto_region 9 with fail;refine yN (fun W8 k12 hE8=> ?_);obtain⟨b12,hb12⟩: ∃b,wr.heap.size=b:=⟨_,rfl⟩;have hlt12:=k10.lt;rw[hb12]at k12 hlt12|-;clear hb12 hld lD hsi;have k10r:=k10.ext hE8;have k2s:=k2r.ext hE8;have hls:=yd k2s 3 3 _ rfl (yH P M);have hl12:=qP k12;have l2:=k2s.lt;have l12:=k12.lt;have hiw:=Hg.out.iw q0 (List.mem_of_getElem? Hq0.out) i (Hin0.out i (List.mem_of_getElem? Hi.out));have Hiw:=Lib.hid hiw;clear hiw;go_wp2_with fail;go_at_call 105;refine(zfu (some ⟨M.gW,0,none⟩) (some ⟨M.gF,0,none⟩) M.cW M.cF P.S i W8 Hg.out.sh Hiw.out).mono ?_;rintro e w9 ⟨⟨z,rfl⟩,hE9⟩;clear hls hl12 l2 l12;replace k10r:=k10r.ext hE9;replace k12:=k12.ext hE9;have c10:=k10r.cell;have l10:=k10r.lt;have f10:=k10r.froz;have c12:w9.cell? ⟨b12,4,none⟩=some (.int .i64 i.w):=k12.cell 4;have l12:=k12.lt;have hsb:=kA (l:=l) (fun i hi=>Hg.out.iw q0 (List.mem_of_getElem? Hq0.out) i (Hin0.out i hi)) j;have hiw:=zi5 Hiw.out;have Hss:=Lib.hid (zdb Hi.out);obtain⟨c,hc⟩: ∃c,kx (l.take j)=c:=⟨_,rfl⟩;rw[hc]at hsb k10r c10;have Hc:=Lib.hid hc;clear hc;have hs10:=yE k10r 0 [.int .i64 (c+i.w)] (by simp) (by simp[Value.oneCell']);go_wp2_with fail;go_roundw;case rel=>exact⟨j+1,_,by omega,by go_num,rfl,by rw[Hss.out,Hc.out];exact k10r.set_ 0 _,(hB.trans ((hE8.trans hE9).but _)).setCell (by simp) _⟩
   case measure=>simp[intOf];omega
  ·skip
   have hjec:decide ((j:Int)<l.length)=false:=by simp;omega
   have hjec':decide (j<l.length)=false:=by simp;omega
   have hje:j=l.length:=by omega
   subst hje;rw[List.take_length]at k10;clear hjec hjec';replace k2:=k2r;replace k4:=k4.but hB (by simp;omega);replace k5:=k5.but hB (by simp;omega);replace k7:=k7.but hB (by simp;omega);clear hB hE k2r;obtain⟨wa,hwa⟩: ∃wa,wa=wr:=⟨_,rfl⟩;subst hwa;have hls:=yd k2 3 3 _ rfl (yH P M);have l2:=k2.lt;have hjec:decide ((l.length:Int)<l.length)=false:=by simp
   have hjec':decide (l.length<l.length)=false:=by simp
   go_wp2_with fail;go_at_call 92;refine(zmx (some ⟨M.gW,0,none⟩) (some ⟨M.gF,0,none⟩) M.cW M.cF P.S wa (h.sp.ext hEr).rd Hg.out.sm.f2).mono ?_;rintro e w3 ⟨⟨Af,nf,cf,rfl⟩,hE3⟩;clear hls l2;replace hEr:=hEr.trans hE3;replace k2:=k2.ext hE3;replace k4:=k4.ext hE3;replace k5:=k5.ext hE3;replace k7:=k7.ext hE3;replace k10:=k10.ext hE3;obtain⟨zf,hzf⟩: ∃zf,decide ((nf:Int)<z9)=zf:=⟨_,rfl⟩;have Hzf:=Lib.hid hzf;clear hzf;cases zf with
   |true=>
    have hst:=zO k4 rfl (xs:=y0) rfl jA;have hst2:=kz (k5.but (zD w3 b4 y0) (by simp)) 0 0 0 0;simp only[y0]at hst hst2;have hzf:=Hzf.out;go_wp2_with fail;have hb2:=Hb2.out;exact zhl k4 k5 (by omega) hEr (by omega) (by omega) (by decide) rfl rfl rfl rfl
   |false=>
    have hlc:=zj k2 (za P M);have hzf:=Hzf.out;go_wp2_with fail;go_at_call 39;refine(qo P M w3 (h.ext hEr) Hg.out.sm).mono ?_;rintro e w4 ⟨Mo,rfl,hO,hE4,hap⟩;clear hlc hzf Hzf;have hsz3:=hEr.size_le;have hn10:=k10.lt;have hn13:=hO.sp.lt;have hn13r:=fun b hb=>(World.ownsRow.lt hO.ro.r b hb).2
    replace hEr:=hEr.trans hE4;replace k2:=k2.ext hE4;replace k4:=k4.ext hE4;replace k5:=k5.ext hE4;replace k7:=k7.ext hE4;replace k10:=k10.ext hE4;have hst:=fun zs hz=>zT w4 zs (ze P Mo) hz (za P Mo) (zg P Mo)
    go_upto_region 15 with fail;clear hst;refine yN (fun W5 k13 hE5=> ?_);have hlt13:=k10.lt;have hsz4:=hE4.size_le;obtain⟨b13,hb13⟩: ∃b,w4.heap.size=b:=⟨_,rfl⟩;rw[hb13]at k13 hlt13 hn13 hn13r|-;have Hb13:=Lib.hid hb13;obtain⟨n0,hn0⟩: ∃n,w3.heap.size=n:=⟨_,rfl⟩;rw[hn0]at hO hsz3 hsz4 hn10 hn13;replace hO:=hO.ext hE5;replace hEr:=hEr.trans hE5;replace k2:=k2.ext hE5;replace k4:=k4.ext hE5;replace k5:=k5.ext hE5;replace k7:=k7.ext hE5;replace k10:=k10.ext hE5;clear hb13 hE4 hE5 hE3;have hvh:=Hv0.out.vh;have hls:=yd k2 3 3 _ rfl (yH P M);have r9:W5.cell? ⟨b2,9,none⟩=some (.slice M.U P.us.length M.cu):=k2.cell 9;have r10:W5.cell? ⟨b2,10,none⟩=some (.slice M.R P.rs.length M.cr):=k2.cell 10;have l2:=k2.lt;have HvR:=Lib.hid (zm6 hvh);have HvS:=Lib.hid (zm7 hvh);have HCh:=Lib.hid hvh.hok.lay.ch;have Hul:=Lib.hid (show P.us.length=32∧P.rs.length=32 from⟨hvh.rt.1,hvh.rt.2.1⟩);have Hwf:=Lib.hid (show WfS (M.ps.map (·.1))from by rw[h.hp];exact Hv0.out.wf);clear hvh;go_wp2_with fail;go_at_call 108;refine(ze9 _ _ M.U M.R D M.cW M.cF M.cu M.cr d P.S _ P.us P.rs l W5 (h.sp.ext hEr).rd HCh.out (Rd.of_own (zm h.ro.u hEr)) (Rd.of_own (zm h.ro.r hEr)) (Rd.of_own (zm hl hEr)) hl2 (by have:=Hul.out;omega) (by have:=Hul.out;omega) HvR.out).mono ?_;rintro e w6 ⟨AH,cH,rfl,hH,hE6⟩;clear hls r9 r10 l2;have hsz5:=hEr.size_le;have hszA:=k13.lt;replace hO:=hO.ext hE6;replace hEr:=hEr.trans hE6;replace k2:=k2.ext hE6;replace k4:=k4.ext hE6;replace k5:=k5.ext hE6;replace k7:=k7.ext hE6;replace k10:=k10.ext hE6;replace k13:=k13.ext hE6;have hls:=yd k2 3 3 _ rfl (yH P M);have r8:w6.cell? ⟨b2,8,none⟩=some (.slice M.As M.ps.length M.cs):=k2.cell 8;have l2:=k2.lt;go_wp2_with fail;go_at_call 109;refine(zfa _ _ M.As D M.cW M.cF M.cs d P.S _ M.ps l w6 (h.sp.ext hEr).rd HCh.out (h.so.ext hEr) Hwf.out (Rd.of_own (zm hl hEr)) hl2 (by rw[h.hp];exact HvS.out)).mono ?_;rintro e w7 ⟨o,AO,cO,nE,rfl,hIo,hoA,hoM,hnE,hE7⟩;clear hls r8 l2;rw[h.hp]at hoM;have HoA:=Lib.hid hoA;have HoM:=Lib.hid hoM;clear hoA hoM;replace hH:=zm hH hE7;replace hO:=hO.ext hE7;replace hEr:=hEr.trans hE7;replace k2:=k2.ext hE7;replace k4:=k4.ext hE7;replace k5:=k5.ext hE7;replace k7:=k7.ext hE7;replace k10:=k10.ext hE7;replace k13:=k13.ext hE7;obtain⟨hs,hhs⟩: ∃hs,xW P.S P.us P.rs l=hs:=⟨_,rfl⟩;rw[hhs]at hH|-;have Hhs:=Lib.hid hhs;have hhl:hs.length<=32:=by rw[<-hhs];have:=zm4 P.S P.us P.rs l;have:=Hul.out;omega
    have hol:o.length<=16384:=zi1 HoA.out (fun t ht=>by
     obtain⟨x,hx,_,_,hm⟩:=((HoM.out t).1 ht).1;exact(Hv0.out.wf.2 x hx).2.2.2 t hm)
    clear hhs hE6 hE7;go_wp2_with fail;go_loopw [17,87] (fun s i wr=> ∃(j:Nat) (D17:Option Addr) (d17:Nat),j<=hs.length∧i= .int .i64 j∧s= .slice D17 j d17∧wr.ownsRow w7.heap.size 67 1 (.slice D17 j d17) j (words ((hs.take j).map (fun x=>P.rs.getD (x-1) 0)))∧Ext w7 wr) (fun _ i _=>hs.length-(intOf i).toNat);case atStart=>exact⟨0,none,0,by omega,rfl,rfl,zP _ _ _ _,Ext.refl _⟩
    case round=>
     obtain⟨j,D17,d17,hj,rfl,rfl,hown,hE⟩:=hrel;have k2r:=k2.ext hE;by_cases hjl:j<hs.length
     ·as_aux_lemma=>
      have hjec:decide ((j:Int)<hs.length)=true:=by simp;omega
      have hjec':decide (j<hs.length)=true:=by simp;omega
      have hjI:(j:Int)<hs.length:=by omega
      obtain⟨x,hx⟩: ∃x,hs[j]? =some x:=⟨_,List.getElem?_eq_getElem hjl⟩;obtain⟨bH,oH,he,z1⟩:=zb0 (Rd.of_own (zm hH hE)) hx;subst he;have lH:=zh z1;obtain⟨k,hkx,hus,_⟩:=kt.1 (Hhs.out▸List.mem_of_getElem? hx);have Hx:=Lib.hid hx;subst hkx
      have hkl:k<P.rs.length:=by
       have:=(List.getElem?_eq_some_iff.1 hus).1;have:=Hul.out;omega
      have hklI:(k:Int)<P.rs.length:=by omega
      have hk1:(k:Int)+1-1=k:=by omega
      have hkb:k<=32:=by have:=Hul.out;omega
      obtain⟨v,hv⟩: ∃v,P.rs[k]? =some v:=⟨_,List.getElem?_eq_getElem hkl⟩;obtain⟨bR,oR,heR,z2⟩:=xw (Rd.of_own (zm h.ro.r (hEr.trans hE))) hv;have lR:=zh z2;have r10:wr.cell? ⟨b2,10,none⟩=some (.slice M.R P.rs.length M.cr):=k2r.cell 10;rw[heR]at r10;have l2:=k2r.lt;have Hv:=Lib.hid hv;clear hx hus hv heR;have hsz:=hE.size_le;go_wp2_with(first|(at_builtin;refine zJ rfl Tryz.elW _ _ rfl w7.heap.size _ _ _ rfl (z8 hown _) _ 1 1 _ rfl (xm _ _ _) (by simp[Value.oneCell']) (by omega) (by omega) (by(first|omega|(simp;done)|(simp;omega))) ?_;intro A2 a2 w2 hown4 hg2 hat2;have hE10:Ext w7 w2:=yy (Ext.alloc hE _) hg2 (z8 hown _) (by omega)));go_roundw
      case rel=>exact⟨j+1,A2,a2,by omega,by go_num,by simp,by
       rw[List.take_add_one,Hx.out];simp only[Option.toList,List.map_append,List.map_cons,List.map_nil,Nat.add_sub_cancel,List.getD_eq_getElem?_getD,Hv.out,Option.getD_some];simpa[words]using hown4,hE10⟩
      case measure=>simp[intOf];omega
     ·skip
      have hjec:decide ((j:Int)<hs.length)=false:=by simp;omega
      have hjec':decide (j<hs.length)=false:=by simp;omega
      have hje:j=hs.length:=by omega
      subst hje;rw[List.take_length]at hown;clear hjec hjec' k2r;obtain⟨zs1,hzs1⟩: ∃zs1,hs.map (fun x=>P.rs.getD (x-1) 0)=zs1:=⟨_,rfl⟩;rw[hzs1]at hown;have Hzs1:=Lib.hid hzs1;have hz1l:zs1.length=hs.length:=by rw[<-hzs1,List.length_map]
      clear hzs1;have hjec:decide ((hs.length:Int)<hs.length)=false:=by simp
      have hjec':decide (hs.length<hs.length)=false:=by simp
      go_wp2_with fail;clear hjec hjec';go_loopw [17,104] (fun s i wr=> ∃(j:Nat) (D17:Option Addr) (d17:Nat),j<=o.length∧i= .int .i64 j∧s= .slice D17 (hs.length+j) d17∧wr.ownsRow w7.heap.size 67 1 (.slice D17 (hs.length+j) d17) (hs.length+j) (words (zs1++(o.take j).map P.S.w))∧Ext w7 wr) (fun _ i _=>o.length-(intOf i).toNat);case atStart=>exact⟨0,D17,d17,by omega,rfl,by simp,by simpa using hown,hE⟩
      case round=>
       clear hown hE;obtain⟨j,D17,d17,hj,rfl,rfl,hown,hE⟩:=hrel;have k2r:=k2.ext hE;by_cases hjl:j<o.length
       ·as_aux_lemma=>
        have hjec:decide ((j:Int)<o.length)=true:=by simp;omega
        have hjec':decide (j<o.length)=true:=by simp;omega
        have hjI:(j:Int)<o.length:=by omega
        obtain⟨x,hx⟩: ∃x,o[j]? =some x:=⟨_,List.getElem?_eq_getElem hjl⟩;obtain⟨bH,oH,he,z1⟩:=zb0 (Rd.of_own (zm hIo hE)) hx;subst he;have lH:=zh z1;have Hx:=Lib.hid hx;obtain⟨x',hx',_,_,hxm⟩:=((HoM.out x).1 (List.mem_of_getElem? hx)).1;have hkl:x<P.S.ws.length:=(HvS.out x' hx' x hxm).1;have hklI:(x:Int)<P.S.ws.length:=by omega
        obtain⟨v,hv⟩: ∃v,P.S.ws[x]? =some v:=⟨_,List.getElem?_eq_getElem hkl⟩;obtain⟨bR,oR,heR,z2⟩:=xw ((h.sp.ext (hEr.trans hE)).rd.W) hv;simp only[Option.some.injEq,Addr.mk.injEq,and_true]at heR;obtain⟨rfl,rfl⟩:=heR;simp only[Nat.zero_add]at z2;have lR:=zh z2;have r10:wr.cell? ⟨b2,4,none⟩=some (.slice (some ⟨M.gW,0,none⟩) P.S.ws.length M.cW):=k2r.cell 4;have l2:=k2r.lt;have Hv:=Lib.hid (show P.S.w x=v by unfold Sp.w;rw[List.getD_eq_getElem?_getD,hv];rfl);clear hx hv hx' hxm;have hsz:=hE.size_le;have hdn:hs.length+(j+1)=hs.length+j+1:=rfl;have hcast:((hs.length+j:Nat):Int)=(hs.length:Int)+j:=by omega
        go_wp2_with(first|(at_builtin;refine zJ rfl Tryz.elW _ _ rfl w7.heap.size _ _ _ rfl (z8 hown _) _ 1 1 _ rfl (xm _ _ _) (by simp[Value.oneCell']) (by omega) (by omega) (by(first|omega|(simp;done)|(simp;omega))) ?_;intro A2 a2 w2 hown4 hg2 hat2;have hE10:Ext w7 w2:=yy (Ext.alloc hE _) hg2 (z8 hown _) (by omega)));go_roundw
        case rel=>exact⟨j+1,A2,a2,by omega,by go_num,by simp[Nat.add_assoc],by
         rw[List.take_add_one,Hx.out];simp only[Option.toList,List.map_append,List.map_cons,List.map_nil,Hv.out];simpa[words,Nat.add_assoc]using hown4,hE10⟩
        case measure=>simp[intOf];omega
       ·skip
        have hjec:decide ((j:Int)<o.length)=false:=by simp;omega
        have hjec':decide (j<o.length)=false:=by simp;omega
        have hje:j=o.length:=by omega
        subst hje;rw[List.take_length]at hown;clear hjec hjec' k2r;have hgz:=hO.sp.lt.2.1;replace hH:=zm hH hE;replace hO:=hO.ext hE;replace hIo:=zm hIo hE;replace hEr:=hEr.trans hE;replace k2:=k2.ext hE;replace k4:=k4.ext hE;replace k5:=k5.ext hE;replace k7:=k7.ext hE;replace k10:=k10.ext hE;replace k13:=k13.ext hE;obtain⟨zb,hzb⟩: ∃n,w7.heap.size=n:=⟨_,rfl⟩;have hz7:=hE.size_le;rw[hzb]at hown hgz hz7;clear hzb hE;obtain⟨wa,hwa⟩: ∃wa,wa=wr:=⟨_,rfl⟩;subst hwa;have hjec:decide ((o.length:Int)<o.length)=false:=by simp
        have hjec':decide (o.length<o.length)=false:=by simp
        obtain⟨t',ht',htl⟩:=zc6 Hg.out.ok Hrr.out;have htt:t'=t:=by have:=Hrt.out;omega
        subst htt;clear ht';obtain⟨C,R,T0,hp1⟩:=Hv0.out.part hN HinF.out Hpre.out htl Hto.out;obtain rfl:=hp1.tgt;have Hp1:=Lib.hid hp1;obtain⟨zs,hzs⟩: ∃zs,zs1++o.map P.S.w=zs:=⟨_,rfl⟩;rw[hzs]at hown;have hzl:zs.length=hs.length+o.length:=by rw[<-hzs,List.length_append,List.length_map,hz1l]
        have Hpt:=Lib.hid (show∀v∈zs,Ptr (aos B (T0::(R++C))) v from by
         rw[<-hzs,<-Hzs1.out,<-Hhs.out];exact zq1 hp1.vh fun t ht=>((HoM.out t).1 ht).1)
        have Hzs:=Lib.hid hzs;rw[<-hzl]at hown;have HliC:=Lib.hid (liC hp1.lC);clear hp1 hzs;have hls:=yd k13 3 3 _ rfl (yH P Mo);have hl7:=qP k7;have l13:=k13.lt;have l7:=k7.lt;have hrun:=zpb n0 Mo.gW Mo.cW Mo.gF Mo.cF P.S B C R T0 D D17 d d17 zb l zs wa hO.sp (zm hl hEr) hown hgz hl2 (by omega) Hp1.out.vh.hok HliC.out Hpt.out;rw[hzl]at hrun;have Hzl:=Lib.hid hzl;clear hzl;go_wp2_with fail;go_at_call 110;refine hrun.mono ?_;rintro e w8 ⟨S1,T,mA,mc,Mv,O,oc,zs',e2,rfl,hS1,hmv,hzo,hBr,hcase⟩;clear hls hl7 l13 l7 hrun hown;have hszA:=hEr.size_le;have hb2:=Hb2.out
        have hgr: ∀x∈ [Mo.gW,Mo.gF],w.heap.size<=x:=fun x hx=>by
         simp only[List.mem_cons,List.not_mem_nil,or_false]at hx;rcases hx with rfl|rfl<;>omega
        have hb13a:=k13.lt;have hru:=vx hO.ru hO.sp hBr (by decide) (by decide);have hbo:=hO.bo.sp hO.sp hBr;have hso:=hO.so.sp hO.sp hBr;have hrou:=vx hO.ro.u hO.sp hBr (by decide) (by decide)
        have hror:=zo hO.ro.r hBr (fun b hb hm=>by
         rcases List.mem_cons.1 hm with rfl|hm
         ·exact hap _ hb rfl
         ·have:=List.mem_singleton.1 hm
          subst this;exact yk hO.ro.r hO.sp.F (by decide) hb rfl)
        replace hH:=vx hH hO.sp hBr (by decide) (by decide);replace hIo:xU w8 (.slice AO o.length cO) o:=vx hIo hO.sp hBr (by decide) (by decide);have hpsm:=hO.hp;replace hEr:=But.ext hEr hBr hgr;replace k2:=k2.but hBr (by simp;omega);replace k4:=k4.but hBr (by simp;omega);replace k5:=k5.but hBr (by simp;omega);replace k7:=k7.but hBr (by simp;omega);replace k10:=k10.but hBr (by simp;omega);replace k13:=k13.but hBr (by simp;omega);have hlen8:n0<=wa.heap.size:=by have:=k13.lt;have:=hBr.size;have:=hO.sp.lt;omega
        clear hb2 hgr hBr hO;have hsi: ∀zs:Array Value,zs.size=5->(yw ⟨w8.heap.size,0,none⟩ [.int .i64 T.x.q,.int .i64 T.x.b,.int .i64 (yz T.x.c 0),.int .i64 (yp T.x.c),.int .i64 T.wd]).run Tryz.prog (w8.alloc (.cells zs 144))= .ok () (w8.alloc (.cells T.inc.a 144)):=fun zs hz=>xB w8 zs T.inc hz
        go_upto_region 29 with fail;clear hsi;refine yN (fun W9 k22 hE1=> ?_);have hlt22:=k13.lt;obtain⟨b22,hb22⟩: ∃b,w8.heap.size=b:=⟨_,rfl⟩;rw[hb22]at k22 hlt22|-;clear hb22;replace hEr:=hEr.trans hE1;replace k2:=k2.ext hE1;replace k4:=k4.ext hE1;replace k5:=k5.ext hE1;replace k7:=k7.ext hE1;replace k10:=k10.ext hE1;replace k13:=k13.ext hE1;replace hru:=zm hru hE1;replace hbo:=hbo.ext hE1;replace hso:=hso.ext hE1;replace hrou:=zm hrou hE1;replace hror:=zm hror hE1;replace hH:=zm hH hE1;replace hIo:=hIo.ext hE1;replace hS1:=hS1.ext hE1;replace hmv:=zm hmv hE1;replace hzo:=zm hzo hE1;clear hE1;rcases hcase with⟨rfl,hzl',hrn,hfw⟩|rfl
        case inr=>
         have hst:=zO k4 rfl (xs:=y0) rfl jA;have hst2:=kz (k5.but (zD W9 b4 y0) (by simp)) 0 0 0 0;simp only[y0]at hst hst2;go_wp2_with fail;have hb2:=Hb2.out;exact zhl k4 k5 (by omega) hEr (by omega) (by omega) (by decide) rfl rfl rfl rfl
        case inl=>
        have Hc:=Lib.hid (show Cpd P B l C R T0 o S1 T Mv zs' from⟨Hp1.out.vh,Hp1.out.lC,HoA.out,HoM.out,hrn,by rw[hzl',Hzl.out,Hhs.out],by rw[Hhs.out,Hzs1.out,Hzs.out];exact hfw⟩);have Hzl2:=Lib.hid (show zs'.length=hs.length+o.length by rw[hzl',Hzl.out]);clear hzl' hrn hfw;obtain⟨bR,hbR⟩:=zq2 hror (by have:=Hul.out;omega);rw[hbR]at hror;have hbR13:bR<b13:=hn13r bR (by rw[hbR];rfl);have hbRn:n0<=bR:=(World.ownsRow.lt hror bR rfl).1;have hRW:bR≠Mo.gW:=hap bR (by rw[hbR];rfl);have hRF:bR≠Mo.gF:=zaa hror hS1.F (by decide);have HbR:=Lib.hid hbR;clear hbR hap hn13r;go_wp2_with fail;have nH:=kD hH hror (by decide);have nI:=kD hIo hror (by decide)
        have nZ: ∀b,(Value.slice O zs'.length oc).ownBlock=some b->b∉ [bR]:=fun b hb hm=>by
         have:=List.mem_singleton.1 hm;have:=(World.ownsRow.lt hzo b hb).1;omega
        go_loopw [136] (fun i wr=> ∃j:Nat,j<=hs.length∧i= .int .i64 j∧wr.ownsRow n0 67 1 (.slice (some ⟨bR,0,none⟩) P.rs.length Mo.cr) P.rs.length (words (puts P.rs (((hs.map (· -1)).zip zs').take j)))∧But [bR] W9 wr) (fun i _=>hs.length-(intOf i).toNat);case atStart=>exact⟨0,by omega,rfl,hror,But.refl _ _⟩
        case round=>
         obtain⟨j,hj,rfl,hro,hB⟩:=hrel;by_cases hjl:j<hs.length
         ·as_aux_lemma=>
          have hjec:decide ((j:Int)<hs.length)=true:=by simp;omega
          have hjec':decide (j<hs.length)=true:=by simp;omega
          have hjI:(j:Int)<hs.length:=by omega
          obtain⟨x,hx⟩: ∃x,hs[j]? =some x:=⟨_,List.getElem?_eq_getElem hjl⟩;obtain⟨bH,oH,he,z1⟩:=zb0 (Rd.of_own (zo hH hB nH)) hx;subst he;have lH:=zh z1;obtain⟨k,hkx,hus,_⟩:=kt.1 (Hhs.out▸List.mem_of_getElem? hx);have Hx:=Lib.hid hx;subst hkx
          have hkl:k<P.rs.length:=by
           have:=(List.getElem?_eq_some_iff.1 hus).1;have:=Hul.out;omega
          have hklI:(k:Int)<P.rs.length:=by omega
          have hk1:(k:Int)+1-1=k:=by omega
          have hkb:k<=32:=by have:=Hul.out;omega
          have hjz:j<zs'.length:=by have:=Hzl2.out;omega
          have hjzI:(j:Int)<zs'.length:=by omega
          obtain⟨v,hv⟩: ∃v,zs'[j]? =some v:=⟨_,List.getElem?_eq_getElem hjz⟩;obtain⟨bO,oO,heO,z2⟩:=xw (Rd.of_own (zo hzo hB nZ)) hv;subst heO;have lO:=zh z2;have hnO: ¬bO=bR:=by have:=nZ bO rfl;simpa using this
          obtain⟨v0,hv0⟩: ∃v0,(puts P.rs (((hs.map (· -1)).zip zs').take j))[k]? =some v0:=⟨_,List.getElem?_eq_getElem (by rw[qA];exact hkl)⟩;have z3:=(zz hro).1 k _ (xV hv0);have f3:=(zz hro).2;have l3:=zh z3;have k13r:=k13.but hB (by simp;omega)
          have r10:wr.cell? ⟨b13,10,none⟩=some (.slice (some ⟨bR,0,none⟩) P.rs.length Mo.cr):=by
           have:=k13r.cell 10;rw[<-HbR.out];exact this
          have l13:=k13r.lt;have hn13': ¬b13=bR:=by omega
          have Hv:=Lib.hid hv;clear hx hus hv hv0;go_upto_region 34 with fail;refine jRB [bR] [(true,0),(true,1),(true,2),(true,3),(true,4),(true,5),(true,6),(true,7),(true,8),(true,9),(false,10)] Tryz.mixed fun hx hy=> ?_
          repeat(first
           |refine jLB hx ?_
           |refine jLS ?_
           |(refine vI rfl (by rfl) (fun K hK=> ?_);have hcy:=Ext.cell hy;have hfy:=Ext.froz hy;go_simp;refine hK _ jB ?_;clear hK;intro hr;replace hx:=hx.trans hr;clear hr)
           |(refine yP hx (fun K hK=> ?_);go_simp;(first|refine hK _ _ jB ?_|refine hK undef _ jB ?_);clear hK hx;intro hx;try refine jq ?_)
           |(refine yP hx (fun K hK=> ?_);have hcy:=Ext.cell hy;have hfy:=Ext.froz hy;go_simp;(first|refine hK _ _ jB ?_|refine hK undef _ jB ?_);clear hK hx;intro hx;try refine jq ?_))
          refine zH ?_;clear r10 l13 k13r z1 lH z2 lO z3 f3 l3 hx hy
          have hro2:(wr.setCell ⟨bR,k,none⟩ (.int .u64 v)).drew.ownsRow n0 67 1 (.slice (some ⟨bR,0,none⟩) P.rs.length Mo.cr) P.rs.length (words (puts P.rs (((hs.map (· -1)).zip zs').take (j+1)))):=by
           have e1:(hs.map (· -1))[j]? =some k:=by rw[List.getElem?_map,Hx.out];simp
           rw[zf3 e1 Hv.out,zai,zac];exact y5 (yv hro k (.int .u64 v))
          have hB2:But [bR] W9 (wr.setCell ⟨bR,k,none⟩ (.int .u64 v)).drew:=(hB.setCell (by simp) _).drew;generalize(wr.setCell ⟨bR,k,none⟩ (.int .u64 v)).drew=wx at*;go_wp2_with fail;go_roundw;case rel=>exact⟨j+1,by omega,by go_num,hro2,hB2⟩
          case measure=>simp[intOf];omega
         ·skip
          have hjec:decide ((j:Int)<hs.length)=false:=by simp;omega
          have hjec':decide (j<hs.length)=false:=by simp;omega
          have hje:j=hs.length:=by omega
          subst hje;rw[List.take_of_length_le (by rw[List.length_zip,List.length_map];omega)]at hro;replace hru:=zo hru hB (kD hru hror (by decide));replace hbo:=hbo.nin hror hB;replace hso:=hso.nin hror hB;replace hrou:=zo hrou hB (kD hrou hror (by decide));replace hS1:=hS1.but hB (by simp;omega) (by simp;omega);replace hH:=zo hH hB nH;replace hIo:xU wr (.slice AO o.length cO) o:=zo hIo hB nI;replace hmv:=zo hmv hB (kD hmv hror (by decide));replace hzo:=zo hzo hB nZ;have hb2:=Hb2.out;replace hEr:=But.ext hEr hB (fun q hq=>by have:=List.mem_singleton.1 hq;omega);clear hb2;replace k2:=k2.but hB (by simp;omega);replace k4:=k4.but hB (by simp;omega);replace k5:=k5.but hB (by simp;omega);replace k7:=k7.but hB (by simp;omega);replace k10:=k10.but hB (by simp;omega);replace k13:=k13.but hB (by simp;omega);replace k22:=k22.but hB (by simp;omega);clear hB hror nH nI nZ hjec hjec';obtain⟨r2,hr2⟩: ∃r2,puts P.rs ((hs.map (· -1)).zip zs')=r2:=⟨_,rfl⟩;rw[hr2]at hro;have Hr2:=Lib.hid hr2;clear hr2;obtain⟨W10,hW10⟩: ∃W10,W10=wr:=⟨_,rfl⟩;subst hW10;have hjec:decide ((hs.length:Int)<hs.length)=false:=by simp
          have hjec':decide (hs.length<hs.length)=false:=by simp
          have nH:=kD hH hS1.W (by decide);have nI:=kD hIo hS1.W (by decide)
          have nZ: ∀b,(Value.slice O zs'.length oc).ownBlock=some b->b∉ [Mo.gW]:=fun b hb hm=>by
           have:=List.mem_singleton.1 hm;have:=(World.ownsRow.lt hzo b hb).1;omega
          go_wp2_with fail;clear hjec hjec';go_loopw [154] (fun i wr=> ∃j:Nat,j<=o.length∧i= .int .i64 j∧SOw wr n0 ⟨S1.sh,puts S1.ws ((o.zip (zs'.drop hs.length)).take j),S1.fs⟩ Mo.gW Mo.cW Mo.gF Mo.cF∧But [Mo.gW] W10 wr) (fun i _=>o.length-(intOf i).toNat);case atStart=>exact⟨0,by omega,rfl,hS1,But.refl _ _⟩
          case round=>
           obtain⟨j,hj,rfl,hSj,hB⟩:=hrel;by_cases hjl:j<o.length
           ·as_aux_lemma=>
            have hjec:decide ((j:Int)<o.length)=true:=by simp;omega
            have hjec':decide (j<o.length)=true:=by simp;omega
            have hjI:(j:Int)<o.length:=by omega
            obtain⟨x,hx⟩: ∃x,o[j]? =some x:=⟨_,List.getElem?_eq_getElem hjl⟩;obtain⟨bH,oH,he,z1⟩:=zb0 (Rd.of_own (zo hIo hB nI)) hx;subst he;have lH:=zh z1;have Hx:=Lib.hid hx;obtain⟨x',hx',_,_,hxm⟩:=((HoM.out x).1 (List.mem_of_getElem? hx)).1;have hkl:x<P.S.ws.length:=(HvS.out x' hx' x hxm).1;have hklI:(x:Int)<P.S.ws.length:=by omega
            have hjz:hs.length+j<zs'.length:=by have:=Hzl2.out;omega
            have hjzI:(hs.length:Int)+(j:Int)<zs'.length:=by omega
            have hidx:((hs.length:Int)+(j:Int)).toNat=hs.length+j:=by omega
            have hidx0:(0:Int)<=(hs.length:Int)+(j:Int):=by omega
            obtain⟨v,hv⟩: ∃v,zs'[hs.length+j]? =some v:=⟨_,List.getElem?_eq_getElem hjz⟩;obtain⟨bO,oO,heO,z2⟩:=xw (Rd.of_own (zo hzo hB nZ)) hv;subst heO;have lO:=zh z2;have hnO: ¬bO=Mo.gW:=by have:=nZ bO rfl;simpa using this
            have hwl:(puts S1.ws ((o.zip (zs'.drop hs.length)).take j)).length=P.S.ws.length:=by rw[qA,Hc.out.run.ln.1]
            obtain⟨⟨v0,z3⟩,f3⟩:=kl hSj (x:=x) (by show x<(puts _ _).length;omega);have l3:=zh z3;have k13r:=k13.but hB (by simp;omega);have r4:wr.cell? ⟨b13,4,none⟩=some (.slice (some ⟨Mo.gW,0,none⟩) P.S.ws.length Mo.cW):=k13r.cell 4;have l13:=k13r.lt;have hn13': ¬b13=Mo.gW:=by omega
            have Hv:=Lib.hid hv;have Hwl:=Lib.hid hwl;clear hx hv hx' hxm hwl;go_upto_region 39 with fail;refine jRB [Mo.gW] [(true,0),(true,1),(true,2),(true,3),(true,4),(true,5),(true,6),(true,7),(true,8),(true,9),(true,10),(true,11),(false,12)] Tryz.mixed fun hx hy=> ?_
            repeat(first
             |refine jLB hx ?_
             |refine jLS ?_
             |(refine vI rfl (by rfl) (fun K hK=> ?_);have hcy:=Ext.cell hy;have hfy:=Ext.froz hy;go_simp;refine hK _ jB ?_;clear hK;intro hr;replace hx:=hx.trans hr;clear hr)
             |(refine yP hx (fun K hK=> ?_);go_simp;(first|refine hK _ _ jB ?_|refine hK undef _ jB ?_);clear hK hx;intro hx;try refine jq ?_)
             |(refine yP hx (fun K hK=> ?_);have hcy:=Ext.cell hy;have hfy:=Ext.froz hy;go_simp;(first|refine hK _ _ jB ?_|refine hK undef _ jB ?_);clear hK hx;intro hx;try refine jq ?_))
            refine zH ?_;clear r4 l13 k13r z1 lH z2 lO z3 f3 l3 hx hy
            have hS2:SOw (wr.setCell ⟨Mo.gW,x,none⟩ (.int .u64 v)).drew n0 ⟨S1.sh,puts S1.ws ((o.zip (zs'.drop hs.length)).take (j+1)),S1.fs⟩ Mo.gW Mo.cW Mo.gF Mo.cF:=by
             have e1:(zs'.drop hs.length)[j]? =some v:=by rw[List.getElem?_drop];exact Hv.out
             rw[zf3 Hx.out e1,zai];have:=hSj.word x v;exact⟨y5 this.W,y5 this.F⟩
            have hB2:But [Mo.gW] W10 (wr.setCell ⟨Mo.gW,x,none⟩ (.int .u64 v)).drew:=(hB.setCell (by simp) _).drew;generalize(wr.setCell ⟨Mo.gW,x,none⟩ (.int .u64 v)).drew=wx at*;go_wp2_with fail;go_roundw;case rel=>exact⟨j+1,by omega,by go_num,hS2,hB2⟩
            case measure=>simp[intOf];omega
           ·as_aux_lemma=>
            have hjec:decide ((j:Int)<o.length)=false:=by simp;omega
            have hjec':decide (j<o.length)=false:=by simp;omega
            have hje:j=o.length:=by omega
            subst hje;rw[List.take_of_length_le (by rw[List.length_zip];omega)]at hSj;replace hru:=zo hru hB (kD hru hS1.W (by decide));replace hbo:=hbo.nin hS1.W hB;replace hso:=hso.nin hS1.W hB;replace hrou:=zo hrou hB (kD hrou hS1.W (by decide))
            replace hro:=zo hro hB (fun b hb hm=>by
             have:=List.mem_singleton.1 hm;have:bR=b:=by simpa[Value.ownBlock]using hb
             omega)
            replace hH:=zo hH hB nH;replace hIo:xU wr (.slice AO o.length cO) o:=zo hIo hB nI;replace hmv:=zo hmv hB (kD hmv hS1.W (by decide));have hb2:=Hb2.out;replace hEr:=But.ext hEr hB (fun q hq=>by have:=List.mem_singleton.1 hq;omega);clear hb2;replace k2:=k2.but hB (by simp;omega);replace k4:=k4.but hB (by simp;omega);replace k5:=k5.but hB (by simp;omega);replace k7:=k7.but hB (by simp;omega);replace k10:=k10.but hB (by simp;omega);replace k13:=k13.but hB (by simp;omega);replace k22:=k22.but hB (by simp;omega);clear hB hS1 nH nI nZ hjec hjec' hzo;obtain⟨ws2,hws2⟩: ∃ws2,puts S1.ws (o.zip (zs'.drop hs.length))=ws2:=⟨_,rfl⟩;rw[hws2]at hSj;have hw2:ws2=puts S1.ws (o.zip (zs'.drop (xW P.S P.us P.rs l).length)):=by rw[Hhs.out];exact hws2.symm
            have Hw2:=Lib.hid hw2;have Hwl:=Lib.hid (show ws2.length=P.S.ws.length∧S1.fs.length=P.S.fs.length∧S1.sh=P.S.sh from⟨by rw[<-hws2,qA,Hc.out.run.ln.1],Hc.out.run.ln.2⟩);clear hws2 hw2;obtain⟨W11,hW11⟩: ∃W11,W11=wr:=⟨_,rfl⟩;subst hW11;have hWd:=Hc.out.words Hw2.out;have hRn:=Hc.out.renew Hw2.out;have hpow:2^S1.sh=B:=by rw[Hwl.out.2.2];exact Hc.out.vh.hok.lay.pow
            have hren:=zjy (some ⟨Mo.gW,0,none⟩) (some ⟨Mo.gF,0,none⟩) Mo.As D AO mA Mo.cW Mo.cF Mo.cs d cO mc B ⟨S1.sh,ws2,S1.fs⟩ _ Mo.ps l o Mv W11 hSj.rd hWd.2.2.2 hpow ⟨zu hso.out (Nat.zero_le _),hso.each⟩ (by rw[hpsm];exact Hv0.out.wf) (Rd.of_own (zm hl hEr)) hl2 (Rd.of_own hIo) (by omega) (Rd.of_own hmv) hRn.2.2 hRn.1 hRn.2.1;rw[hpsm]at hren;simp only[spV,Hwl.out.1,Hwl.out.2.1,Hwl.out.2.2]at hren;have HRn:=Lib.hid hRn;have HWd:=Lib.hid hWd;clear hRn hWd;have hls:=yd k13 3 3 _ rfl (yH P Mo);have r8:W11.cell? ⟨b13,8,none⟩=some (.slice Mo.As Mo.ps.length Mo.cs):=k13.cell 8;have l13:=k13.lt;have hjec:decide ((o.length:Int)<o.length)=false:=by simp
            have hjec':decide (o.length<o.length)=false:=by simp
            go_wp2_with fail;go_at_call 111;refine hren.mono ?_;rintro e w12 ⟨ps',As',cs',rfl,hso',hrp,hE12⟩;clear hls r8 l13 hren hso;have Hrp:=Lib.hid hrp;clear hrp;replace hru:=zm hru hE12;replace hbo:=hbo.ext hE12;replace hrou:=zm hrou hE12;replace hro:=zm hro hE12;replace hSj:=hSj.ext hE12;replace hEr:=hEr.trans hE12;replace k2:=k2.ext hE12;replace k4:=k4.ext hE12;replace k5:=k5.ext hE12;replace k7:=k7.ext hE12;replace k10:=k10.ext hE12;replace k13:=k13.ext hE12;replace k22:=k22.ext hE12;clear hE12 hH hIo hmv;have c13:=k13.cell;have l13:=k13.lt;have f13:=k13.froz;go_upto_region 42 with fail;clear c13 l13 f13;have e13:But [b13] w12 (w12.setCell ⟨b13,8,none⟩ (.slice As' ps'.length cs')):=But.setCell (But.refl _ _) (by simp) _
            have k13a:Blk (w12.setCell ⟨b13,8,none⟩ (.slice As' ps'.length cs')) b13 38 (ze {P with S:=⟨S1.sh,ws2,S1.fs⟩,ss:=ps'.map (·.1),rs:=r2} {Mo with As:=As',cs:=cs',ps:=ps'}):=by
             have h1:=k13.set_ 8 (.slice As' ps'.length cs')
             have h2:ze {P with S:=⟨S1.sh,ws2,S1.fs⟩,ss:=ps'.map (·.1),rs:=r2} {Mo with As:=As',cs:=cs',ps:=ps'}=(ze P Mo).setIfInBounds 8 (.slice As' ps'.length cs'):=by
              have hr2l:r2.length=P.rs.length:=by rw[<-Hr2.out,qA]
              simp only[ze,Hwl.out.1,Hwl.out.2.1,Hwl.out.2.2,hr2l];rfl
             rw[h2];exact h1
            replace hru:=y4 hru k13 e13 (by decide);replace hbo:=hbo.hp k13 e13;replace hso':=hso'.hp k13 e13;replace hrou:=y4 hrou k13 e13 (by decide);replace hro:=y4 hro k13 e13 (by decide);replace hSj:=hSj.hp k13 e13;have hb2:=Hb2.out;replace hEr:=But.ext hEr e13 (fun q hq=>by have:=List.mem_singleton.1 hq;omega);clear hb2;replace k2:=k2.but e13 (by simp;omega);replace k4:=k4.but e13 (by simp;omega);replace k5:=k5.but e13 (by simp;omega);replace k7:=k7.but e13 (by simp;omega);replace k10:=k10.but e13 (by simp;omega);replace k22:=k22.but e13 (by simp;omega);clear k13 e13;generalize w12.setCell ⟨b13,8,none⟩ (.slice As' ps'.length cs')=W13 at*;obtain⟨ss',hss'⟩: ∃ss',ps'.map (·.1)=ss':=⟨_,rfl⟩;have Hss:=Lib.hid hss';rw[hss']at k13a;clear hss';obtain⟨S2,hS2⟩: ∃S2:Sp,⟨S1.sh,ws2,S1.fs⟩=S2:=⟨_,rfl⟩;rw[hS2]at k13a hSj;have HS2:=Lib.hid hS2;clear hS2;have Hclr:=Lib.hid (show Clr S2 S2 B (T::R) C 0 from Clr.start (by rw[<-HS2.out];exact HWd.out.2.2.2));have HB2:=Lib.hid (show 2^S2.sh=B by rw[<-HS2.out];exact hpow);have HsL:=Lib.hid (show S2.ws.length=P.S.ws.length∧S2.fs.length=P.S.fs.length∧S2.sh=P.S.sh from by rw[<-HS2.out];exact Hwl.out);clear hpow;go_wp2_with fail;go_loopw [183] (fun i wr=> ∃(j:Nat) (A:Option Addr) (c:Nat) (vs:List Value) (S3:Sp),j<=l.length∧i= .int .i64 j∧Blk wr b13 38 (ze {P with S:=S3,Q:=yZ ((l.take j).map (·.q)) P.Q,ss:=ss',rs:=r2} {Mo with As:=As',cs:=cs',ps:=ps',A:=A,c:=c,vs:=vs})∧BO wr n0 A c vs (yZ ((l.take j).map (·.q)) P.Q)∧SOw wr n0 S3 Mo.gW Mo.cW Mo.gF Mo.cF∧Clr S2 S3 B (T::R) C j∧But [b13,Mo.gW,Mo.gF] W13 wr) (fun i _=>l.length-(intOf i).toNat);case atStart=>exact⟨0,Mo.A,Mo.c,Mo.vs,S2,by omega,rfl,by simpa[zfy]using k13a,by simpa[zfy]using hbo,hSj,Hclr.out,But.refl _ _⟩
            case round=>
             obtain⟨j,A,c,vs,S3,hj,rfl,k13,hbj,hS3,hcl,hB⟩:=hrel
             have hgr: ∀x∈ [b13,Mo.gW,Mo.gF],w.heap.size<=x:=fun x hx=>by
              have hb2:=Hb2.out;simp only[List.mem_cons,List.not_mem_nil,or_false]at hx;rcases hx with rfl|rfl|rfl<;>omega
             have hEw:=But.ext hEr hB hgr;by_cases hjl:j<l.length
             ·as_aux_lemma=>
              have hjec:decide ((j:Int)<l.length)=true:=by simp;omega
              have hjec':decide (j<l.length)=true:=by simp;omega
              have hjI:(j:Int)<l.length:=by omega
              obtain⟨i,hi⟩: ∃i,l[j]? =some i:=⟨_,List.getElem?_eq_getElem hjl⟩;obtain⟨bD,oD,he,lD,hld⟩:=ky (Rd.of_own (zm hl hEw)) hi;have hsi:=fun zs hz=>xB wr zs i hz
              obtain⟨c0,hc0⟩: ∃c0,C[j]? =some c0:=by
               have h1:=Hp1.out.lC;have:j<C.length:=by rw[h1,List.length_map]at hjl;exact hjl
               exact⟨_,List.getElem?_eq_getElem this⟩
              have hic:i.q=c0.x.q:=by
               have h1:=hi;rw[Hp1.out.lC,List.getElem?_map,hc0]at h1;injection h1 with h1;rw[<-h1];rfl
              obtain⟨q,m,hq,hm,hno,hno2,hset⟩:=zq0 (Hv0.out.bt.nd Hv0.out.vh.hok.lay) Hq0.out Hin0.out ((qp _ _).1 Hpre.out).2.2 hi;have Hc0:=Lib.hid hc0;have Hic:=Lib.hid hic;obtain⟨Qj,hQj⟩: ∃Qj,yZ ((l.take j).map (·.q)) P.Q=Qj:=⟨_,rfl⟩;obtain⟨Qk,hQk⟩: ∃Qk,yZ ((l.take (j+1)).map (·.q)) P.Q=Qk:=⟨_,rfl⟩;have hQjl:Qj.length=P.Q.length:=by rw[<-hQj,ju]
              have hQm: ∀q'∈Qj,q'.length<=10000:=fun q' hq'=>by
               rw[<-hQj]at hq';obtain⟨p,hp,rfl⟩:=List.mem_map.1 hq';exact Nat.le_trans (List.length_filter_le _ _) (Hg.out.sm.q2 p hp)
              rw[hQj]at k13 hbj hq hno2 hset;rw[hQk]at hset;have HQm:=Lib.hid hQm;have HQj:=Lib.hid hQj;have HQk:=Lib.hid hQk;have HQjl:=Lib.hid hQjl;clear hQj hQk hQm hQjl;have Hset:=Lib.hid hset;clear hi hc0 hic hset;subst he;go_upto_region 45 with fail;refine yN (fun W14 k29 hE14=> ?_);obtain⟨b29,hb29⟩: ∃b,wr.heap.size=b:=⟨_,rfl⟩;have hlt29:=k13.lt;rw[hb29]at k29 hlt29|-;clear hb29 lD hld hsi;have k13r:=k13.ext hE14;have hbr:=hbj.ext hE14;have c13:W14.cell? ⟨b13,6,none⟩=some (.slice A Qj.length c):=k13r.cell 6;have l13:=k13r.lt;have f13:=k13r.froz;have c29:W14.cell? ⟨b29,0,none⟩=some (.int .i64 i.q):=k29.cell 0;have l29:=k29.lt;have hrm:=zg5 A c nb m vs Qj q i i.q W14 (hbr.base_ (Nat.zero_le _)) hq (by have:=HQjl.out;have:=Hg.out.sm.q1;omega) HQm.out hm rfl hno hno2;rw[Hset.out]at hrm;have Hrm:=Lib.hid hrm;clear hrm hq hm hno hno2;go_wp2_with fail;go_at_call 112;have hrm:=Hrm.out;refine hrm.mono ?_;rintro e w15 ⟨A',c',vs',rfl,hbo',hE15⟩;clear c13 l13 f13 c29 l29 hbr hrm Hrm;replace hbo':=hbo'.base_ (b:=n0) (by have:=k13r.lt;omega);replace k13r:=k13r.ext hE15;replace k29:=k29.ext hE15;have hS3r:=(hS3.ext hE14).ext hE15;have c13:=k13r.cell;have l13:=k13r.lt;have f13:=k13r.froz;go_upto_region 46 with fail;clear c13 l13 f13;have e13:But [b13] w15 (w15.setCell ⟨b13,6,none⟩ (.slice A' Qk.length c')):=But.setCell (But.refl _ _) (by simp) _;have k13s:Blk (w15.setCell ⟨b13,6,none⟩ (.slice A' Qk.length c')) b13 38 (ze {P with S:=S3,Q:=Qk,ss:=ss',rs:=r2} {Mo with As:=As',cs:=cs',ps:=ps',A:=A',c:=c',vs:=vs'}):=k13r.set_ 6 _;have hB15:But [b13,Mo.gW,Mo.gF] W13 (w15.setCell ⟨b13,6,none⟩ (.slice A' Qk.length c')):=(hB.trans ((hE14.trans hE15).but _)).trans (vM e13 (by simp));replace hbo':=hbo'.hp k13r e13;replace hS3r:=hS3r.hp k13r e13;replace k29:=k29.but e13 (by simp;omega);clear k13r e13;generalize w15.setCell ⟨b13,6,none⟩ (.slice A' Qk.length c')=W15 at*;have c29:W15.cell? ⟨b29,0,none⟩=some (.int .i64 c0.x.q):=by rw[<-Hic.out];exact k29.cell 0
              have l29:=k29.lt;have hls:=yd k13s 3 3 _ rfl (yH _ _);simp only at hls;have l13:=k13s.lt;have hB3:2^S3.sh=B:=by rw[hcl.sh];exact HB2.out
              have hclr:=zjt Mo.gW Mo.cW Mo.gF Mo.cF n0 S3 _ c0.x B W15 hS3r (hcl.first Hc0.out) hB3;go_wp2_with fail;go_at_call 113;refine hclr.mono ?_;rintro e w16 ⟨fs,ws,n,rfl,hI,hS4,hB16⟩;clear hls l13 c29 l29 hclr;have hn13':b13≠Mo.gW∧b13≠Mo.gF:=by omega
              have k13t:Blk w16 b13 38 (ze {P with S:=⟨S3.sh,ws,fs⟩,Q:=Qk,ss:=ss',rs:=r2} {Mo with As:=As',cs:=cs',ps:=ps',A:=A',c:=c',vs:=vs'}):=by
               have h1:=k13s.but hB16 (by simp;omega);have h2:=zi6 {P with S:=S3,Q:=Qk,ss:=ss',rs:=r2} {Mo with As:=As',cs:=cs',ps:=ps',A:=A',c:=c',vs:=vs'} ⟨S3.sh,ws,fs⟩ hI.wl hI.fl rfl;rw[<-h2]at h1;exact h1
              replace hbo':=hbo'.sp hS3r hB16;have hB17:=hB15.trans (vM hB16 (by simp));have hcl':=hcl.step HB2.out Hc0.out hI;go_wp2_with fail;go_roundw
              case rel=>
               rw[<-HQk.out]at k13t hbo';exact⟨j+1,A',c',vs',⟨S3.sh,ws,fs⟩,by omega,by go_num,k13t,hbo',hS4,hcl',hB17⟩
              case measure=>simp[intOf];omega
             ·skip
              have hjec:decide ((j:Int)<l.length)=false:=by simp;omega
              have hjec':decide (j<l.length)=false:=by simp;omega
              have hje:j=l.length:=by omega
              subst hje;rw[List.take_length]at k13 hbj;replace hru:=zo hru hB (zpk hru k13a hSj (by decide) (by decide) (by decide));replace hrou:=zo hrou hB (zpk hrou k13a hSj (by decide) (by decide) (by decide));replace hso':SetO wr 0 As' cs' ps':=⟨zo hso'.out hB (zpk hso'.out k13a hSj (by decide) (by decide) (by decide)),fun p hp=>zo (hso'.each p hp) hB (zpk (hso'.each p hp) k13a hSj (by decide) (by decide) (by decide))⟩
              replace hro:=zo hro hB (fun b hb hm=>by
               have:bR=b:=by simpa[Value.ownBlock]using hb
               subst this;simp only[List.mem_cons,List.not_mem_nil,or_false]at hm;omega)
              replace k2:=k2.but hB (by simp;omega);replace k4:=k4.but hB (by simp;omega);replace k5:=k5.but hB (by simp;omega);replace k7:=k7.but hB (by simp;omega);replace k10:=k10.but hB (by simp;omega);replace k22:=k22.but hB (by simp;omega);clear hB hgr hEr hbo hSj k13a hjec hjec';obtain⟨Q1,hQ1⟩: ∃Q1,yZ (l.map (·.q)) P.Q=Q1:=⟨_,rfl⟩;rw[hQ1]at k13 hbj;have hQ1l:Q1.length=P.Q.length:=by rw[<-hQ1,ju]
              have HQm:=Lib.hid (show∀q'∈Q1,q'.length<=10000 from fun q' hq'=>by
               rw[<-hQ1]at hq';obtain⟨p,hp,rfl⟩:=List.mem_map.1 hq';exact Nat.le_trans (List.length_filter_le _ _) (Hg.out.sm.q2 p hp))
              have HQ1:=Lib.hid hQ1;have HQ1l:=Lib.hid hQ1l;clear hQ1 hQ1l;have hb1000:Q1.length<=1000:=by have:=HQ1l.out;have:=Hg.out.sm.q1;omega
              have Hcl:=Lib.hid hcl;clear hcl;have Hrn:=Lib.hid Hc.out.run;obtain⟨W17,hW17⟩: ∃W,W=wr:=⟨_,rfl⟩;subst hW17;have c7:W17.cell? ⟨b7,4,none⟩=some (.int .i64 (T0.wd:Int)):=k7.cell 4;have l7:=k7.lt;have hjec:decide ((l.length:Int)<l.length)=false:=by simp
              have hjec':decide (l.length<l.length)=false:=by simp
              go_upto_if 204 with fail;clear c7 l7 hjec hjec';obtain⟨z0,hz0⟩: ∃z0,decide (0<T0.wd)=z0:=⟨_,rfl⟩;rw[hz0];have Hz0:=Lib.hid hz0;clear hz0
              go_cut [] (fun wx=> ∃(A:Option Addr) (c:Nat) (vs:List Value) (Q':List (List Inc)) (sq':Int),Blk wx b13 38 (ze {P with S:=S3,Q:=Q',sq:=sq',ss:=ss',rs:=r2} {Mo with As:=As',cs:=cs',ps:=ps',A:=A,c:=c,vs:=vs})∧BO wx n0 A c vs Q'∧But [b13] W17 wx∧
               ((1<=T0.wd∧sq'=P.sq∧∃q j,Q1[t']? =some q∧q[j]? =some T0.inc∧Q'=Q1.set t' (q.set j T.inc))∨(T0.wd=0∧1<=T.wd∧sq'=P.sq+1∧∃q,Q1[t']? =some q∧Q'=Q1.set t' (q++ [T.inc]))∨(T0.wd=0∧T.wd=0∧sq'=P.sq∧Q'=Q1)))
              case first=>
               as_aux_lemma=>
               have c13:W17.cell? ⟨b13,6,none⟩=some (.slice A Q1.length c):=k13.cell 6;have l13:=k13.lt;have f13:=k13.froz;cases z0 with
               |false=>
                have c22:W17.cell? ⟨b22,4,none⟩=some (.int .i64 (T.wd:Int)):=k22.cell 4;have l22:=k22.lt;have Hw0:=Lib.hid (show T0.wd=0 by have:=Hz0.out;simpa using this);go_upto_if 215 with fail;obtain⟨z1,hz1⟩: ∃z1,decide (0<T.wd)=z1:=⟨_,rfl⟩;rw[hz1];have Hz1:=Lib.hid hz1;clear hz1;cases z1 with
                |false=>
                 have Hw1:=Lib.hid (show T.wd=0 by have:=Hz1.out;simpa using this);go_wp2_with fail;go_meet;exact⟨A,c,vs,Q1,P.sq,k13,hbj,But.refl _ _,.inr (.inr ⟨Hw0.out,Hw1.out,rfl,rfl⟩)⟩
                |true=>
                 have Hw1:=Lib.hid (show 0<T.wd by have:=Hz1.out;simpa using this);have hl22:=qP k22;obtain⟨q,hq⟩: ∃q,Q1[t']? =some q:=⟨_,List.getElem?_eq_getElem (by have:=HQ1l.out;have:=Hp1.out.tl;omega)⟩;have hfin:=Hp1.out.fin;rw[HQ1.out]at hfin
                 obtain⟨he0,hbt⟩:T0=⟨⟨P.sq,t',[]⟩,0,[]⟩∧Bt Q1 R P.sq:=by
                  rcases hfin with hf|hf
                  ·exact hf
                  ·have:=hf.1
                   have:=Hw0.out;omega
                 have hTq:T.inc.q=P.sq:=by show T.x.q=P.sq;rw[Hrn.out.q,he0]
                 have hTb:T.inc.b=(t':Int):=by show T.x.b=_;rw[Hrn.out.b,he0]
                 have hadd:=ziv A c t' vs Q1 q T.inc W17 (hbj.base_ (Nat.zero_le _)) hq hTb hb1000 HQm.out (fun y hy=>by
                  rw[hTq];obtain⟨z,hz,e⟩:=hbt.mem (List.mem_of_getElem? hq) (List.mem_of_getLast? hy);rw[e];exact hbt.sq z hz)
                 have Hq:=Lib.hid hq;clear hq hfin he0 hbt hTq hTb;go_wp2_with fail;go_at_call 78;refine hadd.mono ?_;rintro e w18 ⟨A2,c2,vs2,rfl,hbo2,hE18⟩;clear hadd hl22 c13 l13 f13 c22 l22;have k13r:=k13.ext hE18;have c13a:w18.cell? ⟨b13,6,none⟩=some (.slice A Q1.length c):=k13r.cell 6;have c13b:w18.cell? ⟨b13,7,none⟩=some (.int .i64 P.sq):=k13r.cell 7;have l13:=k13r.lt;have f13:=k13r.froz;have hsq:=Hv0.out.s0;have e13:But [b13] w18 ((w18.setCell ⟨b13,6,none⟩ (.slice A2 (Q1.set t' (q++ [T.inc])).length c2)).setCell ⟨b13,7,none⟩ (.int .i64 (P.sq+1))):=But.setCell (But.setCell (But.refl _ _) (by simp) _) (by simp) _;have k13s:Blk ((w18.setCell ⟨b13,6,none⟩ (.slice A2 (Q1.set t' (q++ [T.inc])).length c2)).setCell ⟨b13,7,none⟩ (.int .i64 (P.sq+1))) b13 38 (ze {P with S:=S3,Q:=Q1.set t' (q++ [T.inc]),sq:=P.sq+1,ss:=ss',rs:=r2} {Mo with As:=As',cs:=cs',ps:=ps',A:=A2,c:=c2,vs:=vs2}):=(k13r.set_ 6 _).set_ 7 _;replace hbo2:=(hbo2.base_ (b:=n0) (by have:=k13.lt;omega)).hp k13r e13;obtain⟨n2,hn2⟩: ∃n2,(Q1.set t' (q++ [T.inc])).length=n2:=⟨_,rfl⟩;rw[hn2]at e13 k13s hbo2|-;go_wp2_with fail;go_meet;exact⟨A2,c2,vs2,_,P.sq+1,k13s,hbo2,(hE18.but _).trans e13,.inr (.inl ⟨Hw0.out,Hw1.out,rfl,q,Hq.out,rfl⟩)⟩
               |true=>
                have hl22:=qP k22;have hfin:=Hp1.out.fin;rw[HQ1.out]at hfin
                have hw0:1<=T0.wd:=by
                 have:=Hz0.out;simp at this;omega
                obtain⟨hb,q,jj,hq,hjj,hno⟩:T0.x.b=(t':Int)∧∃q j,Q1[t']? =some q∧q[j]? =some T0.inc∧∀y∈q.take j,y.q≠T0.x.q:=by
                 rcases hfin with hf|hf
                 ·rw[hf.1]at hw0
                  simp at hw0
                 ·exact⟨hf.2.1,hf.2.2.2⟩
                have hTb:T.inc.b=(t':Int):=by show T.x.b=_;rw[Hrn.out.b,hb]
                have hTq:T0.inc.q=T.inc.q:=by show T0.x.q=T.x.q;exact Hrn.out.q.symm
                have hrep:=zaw A c t' jj vs Q1 q T.inc T0.inc W17 (hbj.base_ (Nat.zero_le _)) hq hTb hb1000 HQm.out hjj hTq (fun y hy=>by rw[<-hTq];exact hno y hy);have Hq:=Lib.hid hq;have Hjj:=Lib.hid hjj;have Hw0:=Lib.hid hw0;clear hq hfin hb hTq hTb hno hjj hw0;go_wp2_with fail;go_at_call 79;refine hrep.mono ?_;rintro e w18 ⟨A2,c2,vs2,rfl,hbo2,hE18⟩;clear hrep hl22 c13 l13 f13;have k13r:=k13.ext hE18;have c13a:w18.cell? ⟨b13,6,none⟩=some (.slice A Q1.length c):=k13r.cell 6;have l13:=k13r.lt;have f13:=k13r.froz;have e13:But [b13] w18 (w18.setCell ⟨b13,6,none⟩ (.slice A2 (Q1.set t' (q.set jj T.inc)).length c2)):=But.setCell (But.refl _ _) (by simp) _;have k13s:Blk (w18.setCell ⟨b13,6,none⟩ (.slice A2 (Q1.set t' (q.set jj T.inc)).length c2)) b13 38 (ze {P with S:=S3,Q:=Q1.set t' (q.set jj T.inc),sq:=P.sq,ss:=ss',rs:=r2} {Mo with As:=As',cs:=cs',ps:=ps',A:=A2,c:=c2,vs:=vs2}):=k13r.set_ 6 _;replace hbo2:=(hbo2.base_ (b:=n0) (by have:=k13.lt;omega)).hp k13r e13;obtain⟨n2,hn2⟩: ∃n2,(Q1.set t' (q.set jj T.inc)).length=n2:=⟨_,rfl⟩;rw[hn2]at e13 k13s hbo2|-;go_wp2_with fail;go_meet;exact⟨A2,c2,vs2,_,P.sq,k13s,hbo2,(hE18.but _).trans e13,.inl ⟨Hw0.out,rfl,q,jj,Hq.out,Hjj.out,rfl⟩⟩
              case rest=>
               obtain⟨A3,c3,vs3,Q3,sq3,k13n,hbo3,hB,hQ3⟩:=hcut;have HQ3:=Lib.hid hQ3;replace hru:=y4 hru k13 hB (by decide);replace hrou:=y4 hrou k13 hB (by decide);replace hro:=y4 hro k13 hB (by decide);replace hso':=hso'.hp k13 hB;replace hS3:=hS3.hp k13 hB;have hb2:=Hb2.out;replace hEw:=But.ext hEw hB (fun q hq=>by have:=List.mem_singleton.1 hq;omega);replace k2:=k2.but hB (by simp;omega);replace k4:=k4.but hB (by simp;omega);replace k5:=k5.but hB (by simp;omega);replace k7:=k7.but hB (by simp;omega);replace k10:=k10.but hB (by simp;omega);replace k22:=k22.but hB (by simp;omega);clear hB hbj k13 hb2 hQ3;obtain⟨wd,hwd⟩: ∃wd,wd=wc:=⟨_,rfl⟩;subst hwd;have htw:T.wd<=16384:=Hrn.out.lay.len List.mem_cons_self;have ht0:T0.wd<=T.wd:=by have:=Hrn.out.wd;omega
               have hTd: ∃sv:Int,(T.wd:Int) -T0.wd=sv∧0<=sv∧sv<=16384:=⟨_,rfl,by omega,by omega⟩;obtain⟨sv,hsv,hsv0,hsv1⟩:=hTd;have c22:wd.cell? ⟨b22,4,none⟩=some (.int .i64 (T.wd:Int)):=k22.cell 4;have l22:=k22.lt;have c7:wd.cell? ⟨b7,4,none⟩=some (.int .i64 (T0.wd:Int)):=k7.cell 4;have l7:=k7.lt;have c10:=k10.cell;have l10:=k10.lt;have f10:=k10.froz;go_upto_region 55 with fail;clear c22 l22 c7 l7 c10 l10 f10;have k10a:Blk ((wd.setCell ⟨b10,1,none⟩ (.int .i64 sv)).setCell ⟨b10,2,none⟩ (.int .i64 nE)) b10 176 #[.int .i64 (kx l),.int .i64 sv,.int .i64 nE,.int .i64 0]:=(k10.set_ 1 _).set_ 2 _;have e10:But [b10] wd ((wd.setCell ⟨b10,1,none⟩ (.int .i64 sv)).setCell ⟨b10,2,none⟩ (.int .i64 nE)):=But.setCell (But.setCell (But.refl _ _) (by simp) _) (by simp) _;have k2a:=k2.but e10 (by simp;omega);have hb2:=Hb2.out;have hEa:=But.ext hEw e10 (fun q hq=>by have:=List.mem_singleton.1 hq;omega);obtain⟨we,hwe⟩: ∃we,(wd.setCell ⟨b10,1,none⟩ (.int .i64 sv)).setCell ⟨b10,2,none⟩ (.int .i64 nE)=we:=⟨_,rfl⟩;rw[hwe]at k10a e10 k2a hEa|-;clear hwe;have r9:we.cell? ⟨b2,9,none⟩=some (.slice M.U P.us.length M.cu):=k2a.cell 9;have r10:we.cell? ⟨b2,10,none⟩=some (.slice M.R P.rs.length M.cr):=k2a.cell 10;have l2:=k2a.lt;have c10:we.cell? ⟨b10,1,none⟩=some (.int .i64 sv):=k10a.cell 1;have c10b:we.cell? ⟨b10,3,none⟩=some (.int .i64 0):=k10a.cell 3;have l10:=k10a.lt;have f10:=k10a.froz;have hn2: ¬b2=b10:=by omega
               have hu1:P.us.length<=1000:=by have:=Hul.out;omega
               clear hb2;go_cut [] (fun wx=> ∃v:Int,Blk wx b10 176 #[.int .i64 (kx l),.int .i64 sv,.int .i64 nE,.int .i64 v]∧But [b10] we wx)
               case first=>
                as_aux_lemma=>
                refine zM [b10] (.take 0 (.take 1 (.take 4 (.take 6 (.alt 2 (.take 3 (.take 5 (.alt 7 (.take 8 (.take 9 (.take 10 (.alt 11 .done .none)))) .none))) (.alt 7 (.take 8 (.alt 2 (.take 3 (.take 5 (.take 9 (.take 10 (.alt 11 .done .none))))) .none)) .none)))))) Tryz.mixed (by kernel_rfl) ?_;intro hx hy;iterate 4 (first|refine jTB hx ?_|refine jTS ?_)
                refine jCB hx (fun K hK=> ?_) ?_;go_simp;go_at_call 72;refine(za7 M.U M.R M.cu P.rs.length M.cr P.us _ (Rd.of_own (zm h.ro.u (hEa.trans jX))) hu1).mono ?_;rintro e w1 ⟨AL,cL,rfl,hLo,hEL⟩;have k10l:=(k10a.ext (show Ext we w1 by exact jX));clear c10b f10;have c10c:=k10l.cell;have f10c:=k10l.froz;have l10c:=k10l.lt;refine hK _ _ ((hEL).but _) ?_;clear hK hx;intro hx;replace hy:=Ext.trans hy (Ext.trans jX (hEL));refine jp ?_;iterate 2 (first|refine jTB hx ?_|refine jTS ?_)
                refine jCB hx (fun K hK=> ?_);have hcy:=Ext.cell hy;have hfy:=Ext.froz hy;go_simp;first|refine hK _ _ jB ?_|refine hK undef _ jB ?_
                clear hK hx;intro hx;refine jp ?_;iterate 3 (first|refine jTB hx ?_|refine jTS ?_)
                refine kc hx (fun K hK=> ?_);have hcy:=Ext.cell hy;have hfy:=Ext.froz hy;go_simp;refine hK _ jB ?_;clear hK hx;intro hx;refine zi ?_;rotate_left;refine jCB hx (fun K hK=> ?_);have hcy:=Ext.cell hy;have hfy:=Ext.froz hy;go_simp;first|refine hK _ _ jB ?_|refine hK undef _ jB ?_
                clear hK hx;intro hx;refine jp ?_;first|refine jTB hx ?_|refine jTS ?_
                refine jCB hx (fun K hK=> ?_);go_simp;go_at_call 72;refine(za7 M.U M.R M.cu P.rs.length M.cr P.us _ (Rd.of_own (zm h.ro.u (hEa.trans jX))) hu1).mono ?_;rintro e w1 ⟨AL,cL,rfl,hLo,hEL⟩;have k10l:=(k10a.ext (show Ext we w1 by exact jX));clear c10b f10;have c10c:=k10l.cell;have f10c:=k10l.froz;have l10c:=k10l.lt;refine hK _ _ ((hEL).but _) ?_;clear hK hx;intro hx;replace hy:=Ext.trans hy (Ext.trans jX (hEL));refine jp ?_;iterate 4 (first|refine jTB hx ?_|refine jTS ?_)
                refine kc hx (fun K hK=> ?_);have hcy:=Ext.cell hy;have hfy:=Ext.froz hy;go_simp;refine hK _ jB ?_;clear hK hx;intro hx;refine zi ?_;rotate_left
                all_goals
                 go_wp2_with fail;go_meet;exact⟨_,(by first|exact k10l.set_ 3 _|exact(k10l.set_ 3 _).drew),(by first|exact((But.refl _ _).drew).trans hx|exact hx)⟩
               case rest=>
                obtain⟨v3,k10n,hBe⟩:=hcut;have hBd:=e10.trans hBe;replace hru:=ye hru k10 hBd (by decide);replace hrou:=ye hrou k10 hBd (by decide);replace hro:=ye hro k10 hBd (by decide);replace hso':SetO wc 0 As' cs' ps':=⟨ye hso'.out k10 hBd (by decide),fun p hp=>ye (hso'.each p hp) k10 hBd (by decide)⟩;replace hS3:SOw wc n0 S3 Mo.gW Mo.cW Mo.gF Mo.cF:=⟨ye hS3.W k10 hBd (by decide),ye hS3.F k10 hBd (by decide)⟩;replace hbo3:BO wc n0 A3 c3 vs3 Q3:=⟨hbo3.vl,ye hbo3.out k10 hBd (by decide),fun i v q hv hq=>ye (hbo3.each i v q hv hq) k10 hBd (by decide),hbo3.apart⟩;have hb2:=Hb2.out;replace hEw:=But.ext hEw hBd (fun q hq=>by have:=List.mem_singleton.1 hq;omega);replace k4:=k4.but hBd (by simp;omega);replace k5:=k5.but hBd (by simp;omega);replace k13n:=k13n.but hBd (by simp;omega);clear hBd hBe e10 k10 k10a k2a hEa r9 r10 l2 c10 c10b l10 f10 hn2 hu1 hb2 k2 k7 k22;obtain⟨wf,hwf⟩: ∃wf,wf=wc:=⟨_,rfl⟩;subst hwf;have r15:wf.cell? ⟨b13,15,none⟩=some (.int .i64 P.k.st):=k13n.cell 15;have r17:wf.cell? ⟨b13,17,none⟩=some (.int .i64 P.k.cd):=k13n.cell 17;have r18:wf.cell? ⟨b13,18,none⟩=some (.int .i64 P.k.cp):=k13n.cell 18;have r19:wf.cell? ⟨b13,19,none⟩=some (.int .i64 P.k.en):=k13n.cell 19;have r20:wf.cell? ⟨b13,20,none⟩=some (.int .i64 P.k.wk):=k13n.cell 20;have l13:=k13n.lt;have f13:=k13n.froz;have c10:=k10n.cell;have l10:=k10n.lt;have hct:=Hv0.out.ct;have hsb:=kA (l:=l) (fun i hi=>Hg.out.iw q0 (List.mem_of_getElem? Hq0.out) i (Hin0.out i hi)) l.length;rw[List.take_length]at hsb;have hn13: ¬b10=b13:=by omega
                have hn13': ¬b13=b10:=by omega
                obtain⟨sw,hsw⟩: ∃sw,kx l=sw:=⟨_,rfl⟩;rw[hsw]at c10 k10n hsb;have Hsw:=Lib.hid hsw;clear hsw;go_upto_region 61 with fail;clear r15 r17 r18 r19 r20 l13 f13 c10 l10;obtain⟨P4,hP4⟩: ∃P4:Hpl,P4={P with S:=S3,Q:=Q3,sq:=sq3,ss:=ss',rs:=r2,k:={P.k with st:=wrap64 (P.k.st+1),cd:=P.k.cd+sw,cp:=P.k.cp+sv,en:=wrap64 (P.k.en+nE),wk:=wrap64 (P.k.wk+v3)}}:=⟨_,rfl⟩;obtain⟨M4,hM4⟩: ∃M4:Hmm,M4={Mo with As:=As',cs:=cs',ps:=ps',A:=A3,c:=c3,vs:=vs3}:=⟨_,rfl⟩
                have k13f:Blk (((((wf.setCell ⟨b13,15,none⟩ (.int .i64 (wrap64 (P.k.st+1)))).setCell ⟨b13,17,none⟩ (.int .i64 (P.k.cd+sw))).setCell ⟨b13,18,none⟩ (.int .i64 (P.k.cp+sv))).setCell ⟨b13,19,none⟩ (.int .i64 (wrap64 (P.k.en+nE)))).setCell ⟨b13,20,none⟩ (.int .i64 (wrap64 (P.k.wk+v3)))) b13 38 (ze P4 M4):=by
                 rw[hP4,hM4];exact((((k13n.set_ 15 _).set_ 17 _).set_ 18 _).set_ 19 _).set_ 20 _
                have e13:But [b13] wf (((((wf.setCell ⟨b13,15,none⟩ (.int .i64 (wrap64 (P.k.st+1)))).setCell ⟨b13,17,none⟩ (.int .i64 (P.k.cd+sw))).setCell ⟨b13,18,none⟩ (.int .i64 (P.k.cp+sv))).setCell ⟨b13,19,none⟩ (.int .i64 (wrap64 (P.k.en+nE)))).setCell ⟨b13,20,none⟩ (.int .i64 (wrap64 (P.k.wk+v3)))):=But.setCell (But.setCell (But.setCell (But.setCell (But.setCell (But.refl _ _) (by simp) _) (by simp) _) (by simp) _) (by simp) _) (by simp) _;generalize((((wf.setCell ⟨b13,15,none⟩ (.int .i64 (wrap64 (P.k.st+1)))).setCell ⟨b13,17,none⟩ (.int .i64 (P.k.cd+sw))).setCell ⟨b13,18,none⟩ (.int .i64 (P.k.cp+sv))).setCell ⟨b13,19,none⟩ (.int .i64 (wrap64 (P.k.en+nE)))).setCell ⟨b13,20,none⟩ (.int .i64 (wrap64 (P.k.wk+v3)))=wg at*;replace hru:=y4 hru k13n e13 (by decide);replace hrou:=y4 hrou k13n e13 (by decide);replace hro:=y4 hro k13n e13 (by decide);replace hso':=hso'.hp k13n e13;replace hS3:=hS3.hp k13n e13;replace hbo3:=hbo3.hp k13n e13;have hb2:=Hb2.out;replace hEw:=But.ext hEw e13 (fun q hq=>by have:=List.mem_singleton.1 hq;omega);replace k4:=k4.but e13 (by simp;omega);replace k5:=k5.but e13 (by simp;omega);replace k10n:=k10n.but e13 (by simp;omega);clear e13 k13n;have HP4:=Lib.hid hP4;have HM4:=Lib.hid hM4;clear hP4 hM4;have hszA:=za P4 M4;have k4d:=k4.drew;have k5d:=k5.drew;have k13d:=k13f.drew;have c10:=k10n.cell;have l10:=k10n.lt;have hn10: ¬b10=b4:=by omega
                have hn10': ¬b10=b4+1:=by omega
                have hld: ∀w',(∀b f,b∉ [b4,b4+1] ->(wg.drew.cell? ⟨b,f,none⟩).isSome=true->w'.cell? ⟨b,f,none⟩=wg.drew.cell? ⟨b,f,none⟩) ->(xc ⟨b13,0,none⟩ 22).run Tryz.prog w'= .ok (ze P4 M4) w':=fun w' hc=>qt (za _ _) fun j v hv=>by
                 have h1:=k13d.cell j;rw[hc b13 j (by simp;omega) (by rw[h1,hv];rfl),h1,hv]
                clear hb2;refine vu [b4,b4+1] [(true,0),(true,1),(false,2),(false,3),(true,4)] Tryz.mixed (by kernel_rfl) (by simp only[pick,List.filterMap_cons,List.filterMap_nil,List.getElem?_toArray,List.getElem?_cons_succ,List.getElem?_cons_zero,Option.map_some];rfl) ?_;intro hx hy;refine xA hx (v:= ?_) (by rfl) (fun w' hc=> ?_) ?_;rotate_left
                focus
                 have hcl:=hld w' hc;go_simp;exact rfl
                simp only[Act.put,List.setIfInBounds_toArray,List.set_cons_zero,List.set_cons_succ];refine xA hx (v:= ?_) (by rfl) (fun w' hc=> ?_) ?_;rotate_left
                focus
                 go_simp;exact rfl
                simp only[Act.put,List.setIfInBounds_toArray,List.set_cons_zero,List.set_cons_succ];refine vI rfl (by rfl) (fun K hK=> ?_);have hst:=zO k4d rfl (za P4 M4) (zg P4 M4);go_simp;refine hK _ ?_ ?_;focus exact vM (zD wg.drew b4 (ze P4 M4)) (by simp)
                clear hK;intro hr;replace hx:=hx.trans hr;clear hr;refine vI rfl (by rfl) (fun K hK=> ?_);have k5e:=k5d.but (zD wg.drew b4 (ze P4 M4)) (by simp);have hst2:=kz k5e sw sv nE v3;go_simp;refine hK _ ?_ ?_;focus exact But.setCell (But.setCell (But.setCell (But.setCell (But.refl _ _) (by simp) _) (by simp) _) (by simp) _) (by simp) _
                clear hK;intro hr;replace hx:=hx.trans hr;clear hr;refine xA hx (v:= ?_) (by rfl) (fun w' hc=> ?_) ?_;rotate_left
                focus
                 go_simp;exact rfl
                simp only[Act.put,List.setIfInBounds_toArray,List.set_cons_zero,List.set_cons_succ];refine zH ?_;go_wp2_with fail;clear hx hy hst hst2 hld;have hb2:=Hb2.out;have e4:=zD wg.drew b4 (ze P4 M4);have e5:But [b4+1] (wg.drew.setRow b4 (ze P4 M4)) ((wg.drew.setRow b4 (ze P4 M4)).setCells (b4+1) 0 [.int .i64 sw,.int .i64 sv,.int .i64 nE,.int .i64 v3]):=But.setCell (But.setCell (But.setCell (But.setCell (But.refl _ _) (by simp) _) (by simp) _) (by simp) _) (by simp) _;have k4f:Blk (wg.drew.setRow b4 (ze P4 M4)) b4 38 (ze P4 M4):=setRow_heap wg.drew b4 _ (ze P4 M4) 38 (0,0) k4d;have k5f:Blk ((wg.drew.setRow b4 (ze P4 M4)).setCells (b4+1) 0 [.int .i64 sw,.int .i64 sv,.int .i64 nE,.int .i64 v3]) (b4+1) 176 #[.int .i64 sw,.int .i64 sv,.int .i64 nE,.int .i64 v3]:=(((k5e.set_ 0 _).set_ 1 _).set_ 2 _).set_ 3 _;have hE5:=But.ext (But.ext hEw.drew e4 (fun q hq=>by have:=List.mem_singleton.1 hq;omega)) e5 (fun q hq=>by have:=List.mem_singleton.1 hq;omega);replace hru:=ye (y4 (y5 hru) k4d e4 (by decide)) k5e e5 (by decide);replace hrou:=ye (y4 (y5 hrou) k4d e4 (by decide)) k5e e5 (by decide);replace hro:=ye (y4 (y5 hro) k4d e4 (by decide)) k5e e5 (by decide);have hsf:=ye (y4 (y5 hso'.out) k4d e4 (by decide)) k5e e5 (by decide);have hsg:=fun p hp=>ye (y4 (y5 (hso'.each p hp)) k4d e4 (by decide)) k5e e5 (by decide)
                have hSw:=ye (y4 (y5 hS3.W) k4d e4 (by decide)) k5e e5 (by decide);have hSf:=ye (y4 (y5 hS3.F) k4d e4 (by decide)) k5e e5 (by decide);have hbf:=ye (y4 (y5 hbo3.out) k4d e4 (by decide)) k5e e5 (by decide);have hbg:=fun i v q hv hq=>ye (y4 (y5 (hbo3.each i v q hv hq)) k4d e4 (by decide)) k5e e5 (by decide)
                have hr2l:r2.length=P.rs.length:=by rw[<-Hr2.out,qA]
                have hlC:l.length=C.length:=by have:=congrArg List.length Hp1.out.lC;simpa using this
                have h1:=Hrp.out;rw[Hss.out,<-Hwl.out.2.2,<-Hwl.out.2.1]at h1
                have hvh:=Hc.out.behind Hp1.out.pre Hw2.out (r2:=r2) (by rw[Hhs.out];exact Hr2.out.symm) h1 (S3:=S3) (by
                 have h2:=Hcl.out.ch;rw[List.drop_of_length_le (by omega),List.append_nil]at h2;exact h2) (by have h2:=Hcl.out.sh;rw[<-HS2.out]at h2;exact h2) (fun t ht=>by have h2:=Hcl.out.ws t ht;rw[<-HS2.out]at h2;exact h2)
                have hQf:=HQ3.out;rw[<-HQ1.out]at hQf;have hbeh:=Hv0.out.behind (P':=P4) hN Hp1.out Hrn.out (by rw[HP4.out];exact hvh) (by rw[HP4.out];exact h1.1) (by rw[HP4.out]) (by rw[HP4.out];exact⟨rfl,rfl⟩) (by rw[HP4.out,<-Hsw.out];rfl) (by rw[HP4.out,hsv]) (by rw[HP4.out];exact hQf)
                have hret:xf w N B P l nb (.returned (.tuple #[.agg (ze P4 M4),.agg #[.int .i64 sw,.int .i64 sv,.int .i64 nE,.int .i64 v3],.int .i64 0])) ((wg.drew.setRow b4 (ze P4 M4)).setCells (b4+1) 0 [.int .i64 sw,.int .i64 sv,.int .i64 nE,.int .i64 v3]):=by
                 refine⟨ze P4 M4,sw,sv,nE,v3,0,rfl,za _ _,zg _ _,hE5,.inr ⟨rfl,P4,M4,t',rr,rfl,?_,?_,?_,?_,?_,hbeh.1,Hrr.out,Hrt.out,Hp1.out.tl,hbeh.2,by rw[HP4.out,Hsw.out]⟩⟩
                 ·obtain⟨wh,hwh⟩: ∃wh,(wg.drew.setRow b4 (ze P4 M4)).setCells (b4+1) 0 [.int .i64 sw,.int .i64 sv,.int .i64 nE,.int .i64 v3]=wh:=⟨_,rfl⟩
                  rw[hwh]at hru hSw hSf hbf hbg hsf hsg hrou hro|-;rw[HP4.out,HM4.out];refine⟨zu hru (Nat.zero_le _),⟨zu hSw (Nat.zero_le _),zu hSf (Nat.zero_le _)⟩,⟨hbo3.vl,zu hbf (Nat.zero_le _),fun i v q hv hq=>zu (hbg i v q hv hq) (Nat.zero_le _),hbo3.apart⟩,⟨zu hsf (Nat.zero_le _),hsg⟩,Hss.out,⟨zu hrou (Nat.zero_le _),?_⟩⟩;have h3:=zu hro (Nat.zero_le _);show World.ownsRow _ 0 67 1 (.slice Mo.R r2.length Mo.cr) r2.length (words r2);rw[HbR.out,hr2l];exact h3
                 ·rw[HM4.out]
                  show w.heap.size<=Mo.gW;omega
                 ·rw[HM4.out]
                  show w.heap.size<=Mo.gF;omega
                 ·intro b hb
                  rw[HP4.out,HM4.out]at hb;rw[HM4.out];have h4:(Value.slice Mo.R r2.length Mo.cr).ownBlock=some b:=hb;rw[HbR.out]at h4;have h5:bR=b:=by simpa[Value.ownBlock]using h4
                  subst h5;exact hRW
                 ·obtain⟨wh,hwh⟩: ∃wh,(wg.drew.setRow b4 (ze P4 M4)).setCells (b4+1) 0 [.int .i64 sw,.int .i64 sv,.int .i64 nE,.int .i64 v3]=wh:=⟨_,rfl⟩
                  rw[hwh]at hbf hbg|-;rw[HP4.out,HM4.out];exact⟨hbo3.vl,zu hbf (by omega),fun i v q hv hq=>zu (hbg i v q hv hq) (by omega),hbo3.apart⟩
                have k4g:=k4f.but e5 (by simp);exact zm5 rfl rfl rfl rfl k4g (za P4 M4) k5f hret
end Go.Proofs.YtopcdfbplknmlaaGreat
