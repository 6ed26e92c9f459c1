/- Part of the proof of the claim: walks and plain laws; each theorem states its own conditions. -/
import Derived.Test.YtopcdfbplknmlaaGreatL
import Derived.Test.YtopcdfbplknmlaaGreatG22
set_option linter.all false
set_option maxHeartbeats 4000000
set_option maxRecDepth 100000
namespace Go.Proofs.YtopcdfbplknmlaaGreat.Mo
open Go.RowKit Go.Draw
def Off(S:List Nat)(A:Option Addr)(n:Nat):Prop:=0<n-> ∀ad,A=some ad->ad.block∉S
theorem Off.cons{S:List Nat}{A:Option Addr}{n size o:Nat}{w:World}{xs:List Value}(h:Off S A n)(hr:Rd w A n size xs)(hs:0<size)(ho:w.heap.size<=o):Off (o::S) A n:=fun hn ad hA hm=>by
 rcases List.mem_cons.1 hm with h1|h1
 ·obtain⟨b,f,hb,hl⟩:=hr.lt hs hn
  rw[hA]at hb;injection hb with hb;subst hb;simp only at h1;omega
 ·exact h hn ad hA h1
theorem Off.own{S:List Nat}{w:World}{base:Nat}{e:TypeId}{A:Option Addr}{n c size:Nat}{xs:List Value}(h:w.ownsRow base e size (.slice A n c) n xs)(hS: ∀x∈S,x<base):Off S A n:=fun hn ad hA hm=>by
 obtain⟨g,hg,hb,_⟩:=yD h hn;rw[hA]at hg;injection hg with hg;subst hg;have:=hS _ hm;simp only at this;omega
def zsh(S:List Nat)(w:World)(p:Value×Value)(x:List Int×List Int):Prop:= ∃A c B d,p=(.slice A x.1.length c,.slice B x.2.length d)∧Rd w A x.1.length 1 (yb x.1)∧Rd w B x.2.length 1 (words x.2)∧Off S A x.1.length∧Off S B x.2.length
def GRx(S:List Nat)(w:World)(v:Value)(g:Gr):Prop:= ∃A a B b C c ps,v= .agg #[.slice A g.ns.length a,.slice B g.us.length b,.slice C g.rs.length c]∧
 Rd w A g.ns.length 2 (zal ps)∧Rd w B g.us.length 1 (vb g.us)∧Rd w C g.rs.length 1 (yb g.rs)∧(∀(i:Nat) (p:Value×Value) (x:List Int×List Int),ps[i]? =some p->g.ns[i]? =some x->zsh S w p x)∧
 Off S A g.ns.length∧Off S B g.us.length∧Off S C g.rs.length
theorem GRx.rd{S:List Nat}{w:World}{v:Value}{g:Gr}(h:GRx S w v g):GRd w v g:=by
 obtain⟨A,a,B,b,C,c,ps,hv,h1,h2,h3,h4,_⟩:=h;exact⟨A,a,B,b,C,c,ps,hv,h1,h2,h3,fun i p x hp hx=>by obtain⟨A',c',B',d',k1,k2,k3,_⟩:=h4 i p x hp hx;exact⟨A',c',B',d',k1,k2,k3⟩⟩
theorem GRx.but{S:List Nat}{w w':World}{v:Value}{g:Gr}(h:GRx S w v g)(he:But S w w'):GRx S w' v g:=by
 obtain⟨A,a,B,b,C,c,ps,hv,h1,h2,h3,h4,h5,h6,h7⟩:=h
 exact⟨A,a,B,b,C,c,ps,hv,qm h1 he h5,qm h2 he h6,qm h3 he h7,fun i p x hp hx=>by
  obtain⟨A',c',B',d',k1,k2,k3,k4,k5⟩:=h4 i p x hp hx;exact⟨A',c',B',d',k1,qm k2 he k4,qm k3 he k5,k4,k5⟩,h5,h6,h7⟩
theorem GRx.ext{S:List Nat}{w w':World}{v:Value}{g:Gr}(h:GRx S w v g)(he:Ext w w'):GRx S w' v g:=h.but (he.but S)
theorem GRx.less{S S':List Nat}{w:World}{v:Value}{g:Gr}(h:GRx S w v g)(hs: ∀x∈S',x∈S):GRx S' w v g:=by
 have off: ∀{A:Option Addr} {n:Nat},Off S A n->Off S' A n:=fun h hn ad hA hm=>h hn ad hA (hs _ hm)
 obtain⟨A,a,B,b,C,c,ps,hv,h1,h2,h3,h4,h5,h6,h7⟩:=h
 exact⟨A,a,B,b,C,c,ps,hv,h1,h2,h3,fun i p x hp hx=>by
  obtain⟨A',c',B',d',k1,k2,k3,k4,k5⟩:=h4 i p x hp hx;exact⟨A',c',B',d',k1,k2,k3,off k4,off k5⟩,off h5,off h6,off h7⟩
theorem GRx.cons{S:List Nat}{w:World}{v:Value}{g:Gr}{o:Nat}(h:GRx S w v g)(ho:w.heap.size<=o):GRx (o::S) w v g:=by
 obtain⟨A,a,B,b,C,c,ps,hv,h1,h2,h3,h4,h5,h6,h7⟩:=h
 exact⟨A,a,B,b,C,c,ps,hv,h1,h2,h3,fun i p x hp hx=>by
  obtain⟨A',c',B',d',k1,k2,k3,k4,k5⟩:=h4 i p x hp hx;exact⟨A',c',B',d',k1,k2,k3,k4.cons k2 (by omega) ho,k5.cons k3 (by omega) ho⟩,h5.cons h1 (by omega) ho,h6.cons h2 (by omega) ho,h7.cons h3 (by omega) ho⟩
theorem GOwn.rdx{S:List Nat}{w:World}{base o:Nat}{vA vB vC:Value}{ps:List (Value×Value)}{g:Gr}(h:GOwn w base o vA vB vC ps g)(hS: ∀x∈S,x<base):GRx S w (.agg #[vA,vB,vC]) g:=by
 obtain⟨A,a,rfl⟩:=own_slice h.nodes;obtain⟨B,b,rfl⟩:=own_slice h.used;obtain⟨C,c,rfl⟩:=own_slice h.roots;refine⟨A,a,B,b,C,c,ps,rfl,Rd.of_own h.nodes,Rd.of_own h.used,Rd.of_own h.roots,fun i p x hp hx=> ?_,Off.own h.nodes hS,Off.own h.used hS,Off.own h.roots hS⟩;obtain⟨h1,h2⟩:=h.each i p x hp hx;obtain⟨p1,p2⟩:=p;obtain⟨A',a',rfl⟩:=own_slice h1;obtain⟨B',b',rfl⟩:=own_slice h2;exact⟨A',a',B',b',rfl,Rd.of_own h1,Rd.of_own h2,Off.own h1 hS,Off.own h2 hS⟩
def xf(S:List Nat)(w:World)(x:Gr×Int×Int)(r:Ending)(w':World):Prop:= ∃v',r= .returned (.tuple #[v',.agg #[.int .i64 x.2.1,.int .u64 x.2.2]])∧GRx S w' v' x.1∧Ext w w'
theorem Vld.bd{g:Gr}(h:Vld g)(hn:g.ns.length<=1000):Bd g:=by
 have hlu:=h.lu;have hlr:=h.lr;exact⟨hn,by omega,by omega,fun i x hx=>by have:=h.nd i x hx;omega⟩
theorem GRd.sl{w:World}{v:Value}{g:Gr}(h:GRd w v g): ∃A a B b C c,v= .agg #[.slice A g.ns.length a,.slice B g.us.length b,.slice C g.rs.length c]:=by
 obtain⟨A,a,B,b,C,c,ps,hv,_⟩:=h;exact⟨_,_,_,_,_,_,hv⟩
structure DoSt(w W:World)(vA0 vB0 vC0:Value)(op:Array Value)(o:Nat)(vA vB vC:Value)(qs:List (Value×Value))(g:Gr):Prop where
 k2:Blk W w.heap.size 41 #[vA0,vB0,vC0]
 k3:Blk W (w.heap.size+1) 65 op
 k4:Blk W (w.heap.size+1+1) 41 #[.slice none 0 0,.slice none 0 0,.slice none 0 0]
 k5:Blk W (w.heap.size+1+1+1) 69 #[.int .i64 0,.int .u64 0]
 kO:Blk W o 41 #[vA,vB,vC]
 own:GOwn W (w.heap.size+4) o vA vB vC qs g
 rd:GRd W (.agg #[vA0,vB0,vC0]) g
 ext:Ext w W
 lo:w.heap.size+4<=o
 hi:o<W.heap.size
theorem yt{w w1:World}{vA0 vB0 vC0 vA vB vC:Value}{op:Array Value}{qs:List (Value×Value)}{g:Gr}(hg:GRd w (.agg #[vA0,vB0,vC0]) g)
 (hE:Ext ((((w.alloc (.cells #[vA0,vB0,vC0] 41)).alloc (.cells op 65)).alloc (.cells #[.slice none 0 0,.slice none 0 0,.slice none 0 0] 41)).alloc (.cells #[.int .i64 0,.int .u64 0] 69)) w1)
 (hG:GOwn w1 ((((w.alloc (.cells #[vA0,vB0,vC0] 41)).alloc (.cells op 65)).alloc (.cells #[.slice none 0 0,.slice none 0 0,.slice none 0 0] 41)).alloc (.cells #[.int .i64 0,.int .u64 0] 69)).heap.size
   ((((w.alloc (.cells #[vA0,vB0,vC0] 41)).alloc (.cells op 65)).alloc (.cells #[.slice none 0 0,.slice none 0 0,.slice none 0 0] 41)).alloc (.cells #[.int .i64 0,.int .u64 0] 69)).heap.size vA vB vC qs g):
 DoSt w (w1.alloc (.cells #[vA,vB,vC] 41)) vA0 vB0 vC0 op w1.heap.size vA vB vC qs g:=by
 have e0:Ext w ((((w.alloc (.cells #[vA0,vB0,vC0] 41)).alloc (.cells op 65)).alloc (.cells #[.slice none 0 0,.slice none 0 0,.slice none 0 0] 41)).alloc (.cells #[.int .i64 0,.int .u64 0] 69)):=by exact jX
 have hs:=hE.size_le;simp at hs hG;refine⟨Blk.alloc (Blk.ext ?_ hE) _,Blk.alloc (Blk.ext ?_ hE) _,Blk.alloc (Blk.ext ?_ hE) _,Blk.alloc (Blk.ext ?_ hE) _,Blk.new rfl,?_,hg.ext (Ext.alloc (e0.trans hE) _),Ext.alloc (e0.trans hE) _,by omega,by simp⟩
 ·exact Blk.alloc (Blk.alloc (Blk.alloc (Blk.new rfl) _) _) _
 ·exact Blk.alloc (Blk.alloc (Blk.new (by simp)) _) _
 ·exact Blk.alloc (Blk.new (by simp)) _
 ·exact Blk.new (by simp)
 ·exact((hG.off_ (Nat.le_refl _)).ext (Ext.alloc (Ext.refl _) _)).base_ (by omega)
abbrev st5 (n:Nat) (W:World) (x y z e v:Value):World:=
 ((((W.setCell ⟨n+1+1,0,none⟩ x).setCell ⟨n+1+1,1,none⟩ y).setCell ⟨n+1+1,2,none⟩ z).setCell ⟨n+1+1+1,0,none⟩ e).setCell ⟨n+1+1+1,1,none⟩ v
theorem qZ{n:Nat}{W:World}(x y z e v:Value)(k4:Blk W (n+1+1) 41 #[.slice none 0 0,.slice none 0 0,.slice none 0 0])(k5:Blk W (n+1+1+1) 69 #[.int .i64 0,.int .u64 0]):
 (∀i,(st5 n W x y z e v).cell? ⟨n+1+1,i,none⟩= #[x,y,z][i]?)∧∀i,(st5 n W x y z e v).cell? ⟨n+1+1+1,i,none⟩= #[e,v][i]? :=by
 have h4:=((((k4.set_ 0 x).set_ 1 y).set_ 2 z).far (p:=⟨n+1+1+1,0,none⟩) (by simp) e).far (p:=⟨n+1+1+1,1,none⟩) (by simp) v;have h5:=((((k5.far (p:=⟨n+1+1,0,none⟩) (by simp) x).far (p:=⟨n+1+1,1,none⟩) (by simp) y).far (p:=⟨n+1+1,2,none⟩) (by simp) z).set_ 0 e).set_ 1 v;exact⟨fun i=>by rw[h4.cell];rfl,fun i=>by rw[h5.cell];rfl⟩
theorem x9{w W:World}{x y z e v:Value}(h:Ext w W):Ext w (st5 w.heap.size W x y z e v):=
 Ext.setCell (Ext.setCell (Ext.setCell (Ext.setCell (Ext.setCell h (by show _<=w.heap.size+1+1;omega) _) (by show _<=w.heap.size+1+1;omega) _) (by show _<=w.heap.size+1+1;omega) _) (by show _<=w.heap.size+1+1+1;omega) _) (by show _<=w.heap.size+1+1+1;omega) _
theorem zcc{S:List Nat}{n o:Nat}{W:World}{x y z e v vA vB vC:Value}{qs:List (Value×Value)}{g:Gr}(hSb: ∀x∈S,x<n)(h:GOwn W (n+4) o vA vB vC qs g):GRx S (st5 n W x y z e v) (.agg #[vA,vB,vC]) g:=by
 have f4: ∀q,kv vA vB vC qs q≠some (n+1+1):=fun q hq=>by have:=(h.lt q _ hq).1;omega
 have f5: ∀q,kv vA vB vC qs q≠some (n+1+1+1):=fun q hq=>by have:=(h.lt q _ hq).1;omega
 exact((((h.far (a:=⟨n+1+1,0,none⟩) f4 x).far (a:=⟨n+1+1,1,none⟩) f4 y).far (a:=⟨n+1+1,2,none⟩) f4 z).far (a:=⟨n+1+1+1,0,none⟩) f5 e).far (a:=⟨n+1+1+1,1,none⟩) f5 v|>.rdx (fun x hx=>by have:=hSb x hx;omega)
theorem GOwn.tabs{W:World}{base o b1 c1:Nat}{vA:Value}{B1 C1:Option Addr}{qs:List (Value×Value)}{g:Gr}(h:GOwn W base o vA (.slice B1 g.us.length b1) (.slice C1 g.rs.length c1) qs g)(hu:0<g.us.length)(hr:0<g.rs.length):
 ∃bB bC,B1=some ⟨bB,0,none⟩∧C1=some ⟨bC,0,none⟩∧bB≠bC∧bB≠o∧bC≠o∧(base<=bB∧bB<W.heap.size)∧(base<=bC∧bC<W.heap.size):=by
 obtain⟨bB,cB,hB⟩:=jh h.used hu;obtain⟨bC,cC,hC⟩:=jh h.roots hr;injection hB with hB _ _;injection hC with hC _ _;subst hB;subst hC;refine⟨bB,bC,rfl,rfl,fun e=> ?_,fun e=>h.off .B (by rw[<-e];rfl),fun e=>h.off .C (by rw[<-e];rfl),h.lt .B bB rfl,h.lt .C bC rfl⟩;have:=h.apart .B .C bB rfl (by rw[e];rfl);cases this
theorem zrb(v:Value)(g:Gr)(a b d:Int)(w:World){S:List Nat}(hSb: ∀x∈S,x<w.heap.size)(hg0:GRx S w v g)(hb:Bd g):
 Calls Tryz.prog 21 #[v,.agg #[.int .i64 8,.int .i64 a,.int .i64 b,.int .i64 d]] w (xf S w (g,0,0)):=by
 have hg:=hg0.rd;obtain⟨A0,a0,B0,b0,C0,c0,rfl⟩:=hg.sl;go_enter Tryz.func21,Tryz.ntmps21;go_upto_region 2 with(go_at_call 43;refine(ym _ g _ (hg.ext jX) hb).mono ?_;rintro e w1 ⟨vA,vB,vC,qs,rfl,hG,hE1⟩;obtain⟨A1,a1,rfl⟩:=own_slice hG.nodes;obtain⟨B1,b1,rfl⟩:=own_slice hG.used;obtain⟨C1,c1,rfl⟩:=own_slice hG.roots;have kO:Blk (w1.alloc (.cells #[.slice none 0 0,.slice none 0 0,.slice none 0 0] 41)) w1.heap.size 41 #[.slice none 0 0,.slice none 0 0,.slice none 0 0]:=Blk.new rfl;have cO:=kO.cell;have fO:=kO.froz);clear kO cO fO;have hS:=yt hg hE1 hG;clear hE1 hG hg;obtain⟨k2,k3,k4,k5,kO,hG,hg,hE,hlo,hhi⟩:=hS;generalize hW:w1.alloc (.cells #[.slice A1 g.ns.length a1,.slice B1 g.us.length b1,.slice C1 g.rs.length c1] 41)=W at*;clear hW;generalize w1.heap.size=o at*;clear w1;have m2:=k2.cell;have m3:=k3.cell;have mO:=kO.cell;have f4:=k4.froz;have f5:=k5.froz;have n4:w.heap.size+1+1≠o:=by omega
 have n5:w.heap.size+1+1+1≠o:=by omega
 have m4:=k4.cell;have m5:=k5.cell;go_wp2;obtain⟨cF4,cF5⟩:=qZ (n:=w.heap.size) (.slice A1 g.ns.length a1) (.slice B1 g.us.length b1) (.slice C1 g.rs.length c1) (.int .i64 0) (.int .u64 (0)) (k4) (k5);exact bodyPost_ret (v:= .tuple #[.agg #[.slice A1 g.ns.length a1,.slice B1 g.us.length b1,.slice C1 g.rs.length c1],.agg #[.int .i64 0,.int .u64 (0)]]) (by simp[results,Tryz.results21,go_sem,cF4,cF5]) rfl ⟨_,rfl,zcc hSb (hG),x9 (hE)⟩
theorem znx(v:Value)(g:Gr)(c a b d:Int)(w:World){S:List Nat}(hSb: ∀x∈S,x<w.heap.size)(hg0:GRx S w v g)(hb:Bd g)(hc: ¬(1<=c∧c<=10)):
 Calls Tryz.prog 21 #[v,.agg #[.int .i64 c,.int .i64 a,.int .i64 b,.int .i64 d]] w (xf S w (g,20,0)):=by
 have hg:=hg0.rd;have n1:(c==1)=false:=by simp;omega
 have n2:(c==2)=false:=by simp;omega
 have n3:(c==3)=false:=by simp;omega
 have n4:(c==4)=false:=by simp;omega
 have n5:(c==5)=false:=by simp;omega
 have n6:(c==6)=false:=by simp;omega
 have n7:(c==7)=false:=by simp;omega
 have n8:(c==8)=false:=by simp;omega
 have n9:(c==9)=false:=by simp;omega
 have n10:(c==10)=false:=by simp;omega
 obtain⟨A0,a0,B0,b0,C0,c0,rfl⟩:=hg.sl;go_enter Tryz.func21,Tryz.ntmps21;go_upto_region 2 with(go_at_call 43;refine(ym _ g _ (hg.ext jX) hb).mono ?_;rintro e w1 ⟨vA,vB,vC,qs,rfl,hG,hE1⟩;obtain⟨A1,a1,rfl⟩:=own_slice hG.nodes;obtain⟨B1,b1,rfl⟩:=own_slice hG.used;obtain⟨C1,c1,rfl⟩:=own_slice hG.roots;have kO:Blk (w1.alloc (.cells #[.slice none 0 0,.slice none 0 0,.slice none 0 0] 41)) w1.heap.size 41 #[.slice none 0 0,.slice none 0 0,.slice none 0 0]:=Blk.new rfl;have cO:=kO.cell;have fO:=kO.froz);clear kO cO fO;have hS:=yt hg hE1 hG;clear hE1 hG hg;obtain⟨k2,k3,k4,k5,kO,hG,hg,hE,hlo,hhi⟩:=hS;generalize hW:w1.alloc (.cells #[.slice A1 g.ns.length a1,.slice B1 g.us.length b1,.slice C1 g.rs.length c1] 41)=W at*;clear hW;generalize w1.heap.size=o at*;clear w1;have m2:=k2.cell;have m3:=k3.cell;have mO:=kO.cell;have f4:=k4.froz;have f5:=k5.froz;have n4:w.heap.size+1+1≠o:=by omega
 have n5:w.heap.size+1+1+1≠o:=by omega
 have m4:=k4.cell;have m5:=k5.cell;go_wp2_with(first|(go_at_call 44;refine(yW _ g _ _ (hg.ext jX)).mono ?_;rintro e w1 ⟨rfl,hEf⟩;have hE2:Ext W w1:=jX;have m4':=(k4.ext hE2).cell;have m5':=(k5.ext hE2).cell;have f4':=(k4.ext hE2).froz;have f5':=(k5.ext hE2).froz));obtain⟨cF4,cF5⟩:=qZ (n:=w.heap.size) (.slice A0 g.ns.length a0) (.slice B0 g.us.length b0) (.slice C0 g.rs.length c0) (.int .i64 (20)) (.int .u64 0) (k4.ext hE2) (k5.ext hE2);exact bodyPost_ret (v:= .tuple #[.agg #[.slice A0 g.ns.length a0,.slice B0 g.us.length b0,.slice C0 g.rs.length c0],.agg #[.int .i64 (20),.int .u64 0]]) (by simp[results,Tryz.results21,go_sem,cF4,cF5]) rfl ⟨_,rfl,hg0.ext (x9 (hE.trans hE2)),x9 (hE.trans hE2)⟩
theorem zky(v:Value)(g:Gr)(a b d:Int)(w:World){S:List Nat}(hSb: ∀x∈S,x<w.heap.size)(hg0:GRx S w v g)(hb:Bd g)(hc:a<0∨15<a∨b<0∨32<b):
 Calls Tryz.prog 21 #[v,.agg #[.int .i64 1,.int .i64 a,.int .i64 b,.int .i64 d]] w (xf S w (g,13,0)):=by
 have hg:=hg0.rd;have H: ∃x1 x2 x3 x4:Bool,decide (a<0)=x1∧decide (15<a)=x2∧decide (b<0)=x3∧decide (32<b)=x4∧(x1||x2||x3||x4)=true:=⟨_,_,_,_,rfl,rfl,rfl,rfl,by simp;omega⟩;clear hc;obtain⟨x1,x2,x3,x4,q1,q2,q3,q4,hq⟩:=H;obtain⟨A0,a0,B0,b0,C0,c0,rfl⟩:=hg.sl;go_enter Tryz.func21,Tryz.ntmps21;go_upto_region 2 with(go_at_call 43;refine(ym _ g _ (hg.ext jX) hb).mono ?_;rintro e w1 ⟨vA,vB,vC,qs,rfl,hG,hE1⟩;obtain⟨A1,a1,rfl⟩:=own_slice hG.nodes;obtain⟨B1,b1,rfl⟩:=own_slice hG.used;obtain⟨C1,c1,rfl⟩:=own_slice hG.roots;have kO:Blk (w1.alloc (.cells #[.slice none 0 0,.slice none 0 0,.slice none 0 0] 41)) w1.heap.size 41 #[.slice none 0 0,.slice none 0 0,.slice none 0 0]:=Blk.new rfl;have cO:=kO.cell;have fO:=kO.froz);clear kO cO fO;have hS:=yt hg hE1 hG;clear hE1 hG hg;obtain⟨k2,k3,k4,k5,kO,hG,hg,hE,hlo,hhi⟩:=hS;generalize hW:w1.alloc (.cells #[.slice A1 g.ns.length a1,.slice B1 g.us.length b1,.slice C1 g.rs.length c1] 41)=W at*;clear hW;generalize w1.heap.size=o at*;clear w1;have m2:=k2.cell;have m3:=k3.cell;have mO:=kO.cell;have f4:=k4.froz;have f5:=k5.froz;have n4:w.heap.size+1+1≠o:=by omega
 have n5:w.heap.size+1+1+1≠o:=by omega
 have m4:=k4.cell;have m5:=k5.cell;cases x1<;>cases x2<;>cases x3<;>cases x4<;>simp only[Bool.or_true,Bool.or_false,Bool.true_or,Bool.false_or,Bool.false_eq_true]at hq
 all_goals
  go_wp2_with(first|(go_at_call 44;refine(yW _ g _ _ (hg.ext jX)).mono ?_;rintro e w1 ⟨rfl,hEf⟩;have hE2:Ext W w1:=jX;have m4':=(k4.ext hE2).cell;have m5':=(k5.ext hE2).cell;have f4':=(k4.ext hE2).froz;have f5':=(k5.ext hE2).froz));obtain⟨cF4,cF5⟩:=qZ (n:=w.heap.size) (.slice A0 g.ns.length a0) (.slice B0 g.us.length b0) (.slice C0 g.rs.length c0) (.int .i64 (13)) (.int .u64 0) (k4.ext hE2) (k5.ext hE2);exact bodyPost_ret (v:= .tuple #[.agg #[.slice A0 g.ns.length a0,.slice B0 g.us.length b0,.slice C0 g.rs.length c0],.agg #[.int .i64 (13),.int .u64 0]]) (by simp[results,Tryz.results21,go_sem,cF4,cF5]) rfl ⟨_,rfl,hg0.ext (x9 (hE.trans hE2)),x9 (hE.trans hE2)⟩
theorem GRd.node{W:World}{A0 B0 C0:Option Addr}{n0 n1 n2 a0 b0 c0:Nat}{g:Gr}{m:Nat}{x:List Int×List Int}(h:GRd W (.agg #[.slice A0 n0 a0,.slice B0 n1 b0,.slice C0 n2 c0]) g)(hx:g.ns[m]? =some x):
 ∃ba oa R c1 D c2,A0=some ⟨ba,oa,none⟩∧W.cell? ⟨ba,oa+m*2,none⟩=some (.slice R x.1.length c1)∧W.cell? ⟨ba,oa+m*2+1,none⟩=some (.slice D x.2.length c2)∧Rd W R x.1.length 1 (yb x.1)∧Rd W D x.2.length 1 (words x.2)∧ba<W.heap.size:=by
 obtain⟨A,a,B,b,C,c,ps,hv,h1,h2,h3,h4⟩:=h;simp only[Value.agg.injEq,Array.mk.injEq,List.cons.injEq,Value.slice.injEq,and_true]at hv;obtain⟨⟨rfl,rfl,rfl⟩,_⟩:=hv;have hm:=(List.getElem?_eq_some_iff.1 hx).1;obtain⟨ba,oa,rfl,hc⟩:=h1.2 (by omega);have hpl:ps.length=g.ns.length:=by have:=h1.1;rw[kH]at this;omega
 obtain⟨p,hp0⟩: ∃p,ps[m]? =some p:=⟨_,List.getElem?_eq_getElem (by omega)⟩;obtain⟨R,c1,D,c2,rfl,hR,hD⟩:=h4 m p x hp0 hx;have q0:=hc _ _ (vt ps m _ hp0).1;have q1:=hc _ _ (vt ps m _ hp0).2;rw[<-Nat.add_assoc]at q1;exact⟨ba,oa,R,c1,D,c2,rfl,q0,q1,hR,hD,zh q0⟩
theorem yc(v:Value)(g:Gr)(i:Nat)(r:Int)(w:World)(hg:GRd w v g)(hlr:g.rs.length=32)(hi:i<32)(hr:g.rs[i]? =some r):
 Calls Tryz.prog 48 #[v,.int .i64 ((i:Int)+1)] w fun e w'=>e= .returned (.int .i64 r)∧Ext w w':=by
 have:=ji v g ((i:Int)+1) w hg hlr (by omega);rwa[zb9 g i r hr]at this
theorem zdm(v:Value)(g:Gr)(w:World)(hg:GRd w v g)(hlu:g.us.length=32)(hf: ¬yI g.us<32):
 Calls Tryz.prog 45 #[v] w fun e w'=>e= .returned (.int .i64 0)∧Ext w w':=by
 have:=qT v g w hg (by omega);rwa[show zcb g.us=0 by unfold zcb;rw[if_neg (by omega)]]at this
theorem zdn(v:Value)(g:Gr)(f:Nat)(w:World)(hg:GRd w v g)(hlu:g.us.length=32)(hf:f<32)(he:yI g.us=f):
 Calls Tryz.prog 45 #[v] w fun e w'=>e= .returned (.int .i64 ((f:Int)+1))∧Ext w w':=by
 have:=qT v g w hg (by omega);rwa[show zcb g.us=(f:Int)+1 by unfold zcb;rw[if_pos (by omega),he]]at this
theorem jT{S:List Nat}{a b:World}(h:But S a.drew b):But S a b:=⟨h.os,h.tape,h.output,h.size,h.block⟩
theorem kJ{w w':World}{A:Option Addr}{n size d:Nat}{xs:List Value}(h:Rd w A n size xs)(he:But [d] w w')(hS:0<n-> ∀ad,A=some ad->ad.block≠d):Rd w' A n size xs:=
 qm h he (fun h0 ad h=>by simp only[List.mem_singleton];exact hS h0 ad h)
theorem yX(n u d m c:Nat)(U:Option Addr)(us:List Int)(w:World)(ku:Blk w u 22 #[.slice U m c])(kd:Blk w n 44 #[.pointer (some ⟨d,0,none⟩)])(hD:Dk w d)(hr:Rd w U m 1 (yb us))(hU:0<m-> ∀ad,U=some ad->ad.block≠d)(hm:m<=1000)(hdu:u≠d)(hdn:n≠d):
 Calls Tryz.prog 30 #[.pointer (some ⟨u,0,none⟩),.pointer (some ⟨n,0,none⟩)] w fun r w'=> ∃x,r= .returned (.int .i64 x)∧Dk w' d∧But [d] w w':=by
 have m0:=ku.cell;have m1:=kd.cell;have hud:u∉ [d]:=by simpa using hdu
 have hnd:n∉ [d]:=by simpa using hdn
 by_cases h0:m=0
 ·subst h0
  go_enter Tryz.func30,Tryz.ntmps30;go_wp2_with(first|(go_at_call 17;refine(zG d _ _ (by assumption) (by omega) (by omega)).mono ?_;rintro e w1 ⟨x,rfl,hx0,hx1,hDk,hB⟩));go_ret;exact⟨x,rfl,hDk,hB⟩
 ·have hd0:(m==0)=false:=by simpa using h0
  have hd1:((m:Int)==0)=false:=by simp;omega
  go_enter Tryz.func30,Tryz.ntmps30;go_upto_region 2 with(go_at_call 17;refine(zG d _ _ (by assumption) (by omega) (by omega)).mono ?_;rintro e w1 ⟨z,rfl,hx0,hx1,hDk,hB⟩;cases hz:(z==0))
  ·have c0:=(ku.but hB hud).cell
   have c1:=(kd.but hB hnd).cell;have hr1:=kJ hr hB hU;obtain⟨bU,oU,rfl,hcU⟩:=hr1.2 (by omega);have hbU:bU≠d:=hU (by omega) _ rfl;have hml:=hr.1;rw[zen,Nat.mul_one]at hml;refine zM [d] (.take 0 (.take 1 (.take 2 (.take 3 (.alt 4 (.take 5 (.take 6 (.take 7 .done))) .none))))) Tryz.mixed (by kernel_rfl) ?_;intro hx hy;iterate 4 (first|refine jTB hx ?_|refine jTS ?_)
   refine jCB hx (fun K hK=> ?_);go_simp;go_at_call 17;refine(zG d m _ (hDk.ext (Ext.drew (Ext.refl _))) (by omega) (by omega)).mono ?_;rintro e w1 ⟨x,rfl,hy0,hy1,hDk2,hB2⟩;(obtain⟨i,rfl⟩: ∃i:Nat,x=i:=⟨x.toNat,by omega⟩);(obtain⟨y,hy⟩: ∃y,us[i]? =some y:=⟨_,List.getElem?_eq_getElem (by omega)⟩);have hci:=hcU i _ (xq hy);have hli:=zh hci;have hi1:i<m:=(by omega);refine hK _ _ (But.trans hB2 (But.refl _ _)) ?_;clear hK hx;intro hx;refine jp ?_;iterate 3 (first|refine jTB hx ?_|refine jTS ?_)
   refine zi ?_;go_wp2;go_ret;exact⟨y,rfl,hDk2,hB.trans (by first|exact jT hB2|exact jT (jT hB2))⟩
  ·have c0:=(ku.but hB hud).cell
   have c1:=(kd.but hB hnd).cell;go_wp2_with(go_at_call 17;refine(zG d _ _ hDk (by omega) (by omega)).mono ?_;rintro e w2 ⟨y,rfl,hy0,hy1,hDk2,hB2⟩);go_ret;exact⟨y,rfl,hDk2,hB.trans hB2⟩
theorem zcd: ∀{s:List Bool} {i:Nat},s[i]? =some false->(s.set i true).count false+1=s.count false
 | [],i,h=>by simp at h
 |b::s,0,h=>by simp at h;subst h;simp
 |b::s,i+1,h=>by
  have:=zcd (s:=s) (i:=i) (by simpa using h);simp only[List.set_cons_succ,List.count_cons];omega
theorem zce{s:List Bool}{x i:Nat}:(s.set x true)[i]? =some true↔(i=x∧x<s.length)∨s[i]? =some true:=by
 by_cases h:x=i
 ·subst h
  by_cases hl:x<s.length
  ·simp[hl]
  ·simp[hl]
 ·rw[List.getElem?_set_ne h]
  constructor
  ·exact Or.inr
  ·rintro(⟨h1,_⟩|h1)
   ·exact absurd h1.symm h
   ·exact h1
structure Snd(g:Gr)(s:List Bool):Prop where
 len:s.length=g.ns.length
 snd: ∀i,s[i]? =some true->Rch g i
def qd(g:Gr)(s:List Bool)(k:Nat):Prop:= ∀(i n:Nat),i<k->g.us[i]? =some true->g.rs[i]? =some (n:Int) ->s[n]? =some true
def vc(g:Gr)(s:List Bool)(k:Nat):Prop:= ∀(m n j:Nat) (x:List Int×List Int),m<k->s[m]? =some true->g.ns[m]? =some x->x.1[j]? =some (n:Int) ->s[n]? =some true
theorem Snd.mark{g:Gr}{s:List Bool}(h:Snd g s){x:Nat}(hx:Rch g x):Snd g (s.set x true):=
 ⟨by simpa using h.len,fun i hi=>by
   rcases zce.1 hi with⟨rfl,_⟩|h1
   ·exact hx
   ·exact h.snd i h1⟩
theorem zny(g:Gr):Snd g (List.replicate g.ns.length false):=⟨by simp,fun i hi=>by
 simp only[List.getElem?_replicate]at hi;split at hi<;>cases hi⟩
theorem qd.mark{g:Gr}{s:List Bool}{k:Nat}(h:qd g s k)(x:Nat):qd g (s.set x true) k:=
 fun i n hi hu hr=>zce.2 (.inr (h i n hi hu hr))
theorem qd.next{g:Gr}{s:List Bool}{k:Nat}(h:qd g s k)(hk:g.us[k]? =some true-> ∀n:Nat,g.rs[k]? =some (n:Int) ->s[n]? =some true):qd g s (k+1):=
 fun i n hi hu hr=>by
  rcases Nat.lt_or_ge i k with h1|h1
  ·exact h i n h1 hu hr
  ·have:i=k:=by omega
   subst this;exact hk hu n hr
theorem vc.next{g:Gr}{s:List Bool}{k:Nat}(h:vc g s k)(hk: ∀(n j:Nat) (x:List Int×List Int),s[k]? =some true->g.ns[k]? =some x->x.1[j]? =some (n:Int) ->s[n]? =some true):vc g s (k+1):=
 fun m n j x hm h1 h2 h3=>by
  rcases Nat.lt_or_ge m k with h4|h4
  ·exact h m n j x h4 h1 h2 h3
  ·have:m=k:=by omega
   subst this;exact hk n j x h1 h2 h3
theorem zhw{g:Gr}{s:List Bool}(h:Snd g s)(hr:qd g s g.us.length)(hc:vc g s g.ns.length)(n:Nat):s[n]? =some true↔Rch g n:=by
 refine⟨h.snd n,fun hn=> ?_⟩;induction hn with
 |root h1 h2=>exact hr _ _ (List.getElem?_eq_some_iff.1 h1).1 h1 h2
 |step _ h1 h2 ih=>exact hc _ _ _ _ (List.getElem?_eq_some_iff.1 h1).1 ih h1 h2
def xK(s:List Bool)(k:Nat):List Nat:=(List.range k).filter fun i=>s.getD i false
theorem zcf{s:List Bool}{k:Nat}(h:s[k]? =some true):xK s (k+1)=xK s k++ [k]:=by
 unfold xK;rw[List.range_succ,List.filter_append];simp[List.getD_eq_getElem?_getD,h]
theorem zdo{s:List Bool}{k:Nat}(h:s[k]? =some false):xK s (k+1)=xK s k:=by
 unfold xK;rw[List.range_succ,List.filter_append];simp[List.getD_eq_getElem?_getD,h]
theorem zcg(s:List Bool)(k:Nat):(xK s k).length<=k:=by
 have:=List.length_filter_le (fun i=>s.getD i false) (List.range k);simpa[xK]using this
theorem zhx{g:Gr}{s:List Bool}(h:Snd g s)(hd: ∀n,s[n]? =some true↔Rch g n):xK s g.ns.length=qY g:=by
 unfold xK qY;apply List.filter_congr;intro i hi;have hl:i<s.length:=by rw[h.len];simpa using hi
 have h1:s[i]? =some s[i]:=List.getElem?_eq_getElem hl;rw[List.getD_eq_getElem?_getD,h1,Option.getD_some];cases hs:s[i]with
 |true=>exact(zdl.2 ((hd i).1 (by rw[h1,hs]))).symm
 |false=>
  cases hb:znu g i with
  |false=>rfl
  |true=>
   have:=(hd i).2 (zdl.1 hb);rw[h1,hs]at this;cases this
def zeb(l:List Nat):List Int:=l.map Int.ofNat
theorem zkz{g:Gr}{n:Nat}(h:n∈qY g):n<g.ns.length:=by
 unfold qY at h;simpa using(List.mem_filter.1 h).1
theorem zch(g:Gr):(qY g).length<=g.ns.length:=by
 have:=List.length_filter_le (znu g) (List.range g.ns.length);simpa[qY]using this
theorem znz(g:Gr)(l:List Nat)(n:Nat):za2 g (l++ [n])=za2 g l+jD (g.ns.getD n ([],[])):=by simp[za2]
theorem zhy{g:Gr}(hb: ∀(i:Nat) (x:List Int×List Int),g.ns[i]? =some x->x.1.length<=3000∧x.2.length<=3000): ∀l:List Nat,za2 g l<=6001*l.length
 | []=>by simp[za2]
 |n::l=>by
  have ih:=zhy hb l
  have h1:jD (g.ns.getD n ([],[]))<=6001:=by
   rw[List.getD_eq_getElem?_getD];cases hx:g.ns[n]? with
   |none=>simp[jD]
   |some x=>
    have:=hb n x hx;simp only[Option.getD_some,jD];omega
  simp only[za2,List.map_cons,List.sum_cons,List.length_cons]at ih|-;omega
def isF:Value->Bool
 | .bool false=>true
 |_=>false
def zhz(w:World)(b n:Nat):Nat:=
 match w.heap[b]? with
 |some (.cells cs _ _)=>(cs.toList.take n).countP isF
 |_=>0
theorem zgm: ∀s:List Bool,(vb s).countP isF=s.count false
 | []=>rfl
 |b::s=>by
  have ih:=zgm s;unfold vb at ih|-;rw[List.map_cons,List.countP_cons,ih];cases b<;>simp[isF]
theorem zci{w:World}{base b n c:Nat}{s:List Bool}(h:w.ownsRow base 4 1 (.slice (some ⟨b,0,none⟩) n c) n (vb s)):zhz w b n=s.count false:=by
 rcases h.2 with⟨h0,_⟩|⟨g,cap,cur,hv,_,hg,hnc,_,hcs,htake⟩
 ·cases h0
 ·simp only[Value.slice.injEq,Option.some.injEq,Addr.mk.injEq,and_true,true_and]at hv
  obtain⟨rfl,_⟩:=hv;unfold zhz;rw[hg];simp only[Nat.mul_one]at htake;simp only[htake];exact zgm s
def j4(w:World)(zs:List Int)(r:Ending)(w':World):Prop:=
 ∃A c,r= .returned (.slice A zs.length c)∧w'.ownsRow w.heap.size 3 1 (.slice A zs.length c) zs.length (yb zs)∧Ext w w'
theorem zcj(l:List Nat):(zeb l).length=l.length:=by simp[zeb]
theorem zk0(l:List Nat)(k:Nat):yb (zeb l)++ [.int .i64 (k:Int)]=yb (zeb (l++ [k])):=by simp[yb,zeb]
theorem GRd.rows{W:World}{A0 B0 C0:Option Addr}{n0 n1 n2 a0 b0 c0:Nat}{g:Gr}(h:GRd W (.agg #[.slice A0 n0 a0,.slice B0 n1 b0,.slice C0 n2 c0]) g):Rd W B0 g.us.length 1 (vb g.us)∧Rd W C0 g.rs.length 1 (yb g.rs):=by
 obtain⟨A,a,B,b,C,c,ps,hv,h1,h2,h3,h4⟩:=h;simp only[Value.agg.injEq,Array.mk.injEq,List.cons.injEq,Value.slice.injEq,and_true]at hv;obtain⟨⟨rfl,rfl,rfl⟩,⟨rfl,rfl,rfl⟩,⟨rfl,rfl,rfl⟩⟩:=hv;exact⟨h2,h3⟩
theorem zqm{W:World}{A:Option Addr}{s:List Bool}{k:Nat}{u:Bool}(h:Rd W A s.length 1 (vb s))(hk:s[k]? =some u): ∃b o,A=some ⟨b,o,none⟩∧W.cell? ⟨b,o+k,none⟩=some (.bool u):=by
 have hl:=(List.getElem?_eq_some_iff.1 hk).1;obtain⟨b,o,v,hA,hu,hc⟩:=h.at_ hl;rw[zay hk]at hu;injection hu with hu;subst hu;exact⟨b,o,hA,hc⟩
theorem zjd{W:World}{A:Option Addr}{s:List Int}{k:Nat}{u:Int}(h:Rd W A s.length 1 (yb s))(hk:s[k]? =some u): ∃b o,A=some ⟨b,o,none⟩∧W.cell? ⟨b,o+k,none⟩=some (.int .i64 u):=by
 have hl:=(List.getElem?_eq_some_iff.1 hk).1;obtain⟨b,o,v,hA,hu,hc⟩:=h.at_ hl;rw[xq hk]at hu;injection hu with hu;subst hu;exact⟨b,o,hA,hc⟩
theorem zgn{w:World}{base b n c x:Nat}{s:List Bool}(h:w.ownsRow base 4 1 (.slice (some ⟨b,0,none⟩) n c) n (vb s)):(w.setCell ⟨b,x,none⟩ (.bool true)).ownsRow base 4 1 (.slice (some ⟨b,0,none⟩) n c) n (vb (s.set x true)):=by
 rw[znr];exact yv h x _
def zrc:Value->Nat
 | .bool true=>1
 |_=>0
theorem zgo(v:Value)(g:Gr)(w:World)(hg:GRd w v g)(hv:Vld g)(hb:g.ns.length<=1000):Calls Tryz.prog 70 #[v] w (j4 w (zeb (qY g))):=by
 obtain⟨A0,a0,B0,b0,C0,c0,rfl⟩:=hg.sl;have hlu:=Lib.hid hv.lu;have hlr:=Lib.hid hv.lr;have Hv:=Lib.hid hv;have mk:=fun W:World=>js (P:=Tryz.prog) Tryz.el24 rfl g.ns.length (by omega) (by omega) W
 clear hv;go_enter Tryz.func70,Tryz.ntmps70;go_upto_region 1 with fail;have hX:=Ext.alloc (Ext.refl w) (.cells #[.slice A0 g.ns.length a0,.slice B0 g.us.length b0,.slice C0 g.rs.length c0] 41);have k1:Blk (w.alloc (.cells #[.slice A0 g.ns.length a0,.slice B0 g.us.length b0,.slice C0 g.rs.length c0] 41)) w.heap.size 41 #[.slice A0 g.ns.length a0,.slice B0 g.us.length b0,.slice C0 g.rs.length c0]:=Blk.new rfl;generalize hW:w.alloc (.cells #[.slice A0 g.ns.length a0,.slice B0 g.us.length b0,.slice C0 g.rs.length c0] 41)=W at hX k1|-;clear hW;have hgW:=hg.ext hX;have m1:=k1.cell;have l1:=k1.lt;have hsz:=hX.size_le;go_upto_region 2 with fail
 have hS0:(W.alloc (.cells (Array.replicate g.ns.length (Value.bool false)) 4)).ownsRow W.heap.size 4 1 (.slice (some ⟨W.heap.size,0,none⟩) g.ns.length g.ns.length) g.ns.length (vb (List.replicate g.ns.length false)):=by
  have:=qJ (base:=W.heap.size) (w:=W) (cs:=List.replicate g.ns.length (Value.bool false)) (e:=4) (size:=1) (n:=g.ns.length) rfl (Nat.le_refl _) (by omega) (by simp);simpa[vb]using this
 have hX2:Ext W (W.alloc (.cells (Array.replicate g.ns.length (Value.bool false)) 4)):=Ext.alloc (Ext.refl _) _;generalize hW2:W.alloc (.cells (Array.replicate g.ns.length (Value.bool false)) 4)=W2 at hX2 hS0|-;clear hW2;obtain⟨bs,hbs⟩: ∃bs,bs=W.heap.size:=⟨_,rfl⟩;rw[<-hbs]at hS0;rw[<-hbs];have hbs':W.heap.size<=bs:=by omega
 replace hS0:=zu hS0 hbs';have hub:g.us.length<=1000:=by have:=hlu.out;omega
 clear hbs m1;have m1:=(k1.ext hX2).cell;obtain⟨hU0,hC0⟩:=hgW.rows;clear mk;go_wp2_with fail;go_loopw [21] (fun i wr=> ∃(k:Nat) (s:List Bool),k<=g.us.length∧i= .int .i64 k∧wr.ownsRow W.heap.size 4 1 (.slice (some ⟨bs,0,none⟩) g.ns.length g.ns.length) g.ns.length (vb s)∧Ext W wr∧Snd g s∧qd g s k) (fun i _=>g.us.length-(intOf i).toNat);case atStart=>exact⟨0,_,by omega,rfl,hS0,hX2,zny g,fun i n hi=>by omega⟩
 case round=>
  clear hS0 hX2 m1;obtain⟨k,s,hk,rfl,hS,hE,hSn,hRi⟩:=hrel;have k1':=k1.ext hE;have m1':=k1'.cell;have lb:=(World.ownsRow.lt hS bs rfl).2;have HSn:=Lib.hid hSn;have HRi:=Lib.hid hRi;clear hSn hRi;by_cases hlt:k<g.us.length
  ·have hdec:decide ((k:Int)<g.us.length)=true:=by simp;omega
   have hdec':decide (k<g.us.length)=true:=by simp;omega
   have hkb:(k:Int)<g.us.length:=by omega
   obtain⟨u,hu⟩: ∃u,g.us[k]? =some u:=⟨_,List.getElem?_eq_getElem hlt⟩;obtain⟨bb,ob,rfl,hcb⟩:=zqm (hU0.ext hE) hu;have Hu:=Lib.hid hu;clear hu;have lbb:=zh hcb;cases u
   ·go_wp2
    go_roundw;case rel=>exact⟨k+1,s,by omega,by go_num,hS,hE,HSn.out,HRi.out.next (fun hu=>by rw[Hu.out]at hu;cases hu)⟩
    case measure=>simp[intOf];omega
   ·obtain⟨r,hr⟩: ∃r,g.rs[k]? =some r:=⟨_,List.getElem?_eq_getElem (by have:=hlu.out;have:=hlr.out;omega)⟩
    have hrb:=Hv.out.us k r Hu.out hr;obtain⟨n,rfl⟩: ∃n:Nat,r=n:=⟨r.toNat,by omega⟩;obtain⟨bc,oc,rfl,hcc⟩:=zjd (hC0.ext hE) hr;have Hr:=Lib.hid hr;clear hr;have lbc:=zh hcc;have n1:n<g.ns.length:=by omega
    have n2:(n:Int)<g.ns.length:=by omega
    have n3:k<g.rs.length:=by have:=hlu.out;have:=hlr.out;omega
    have n4:(k:Int)<g.rs.length:=by omega
    obtain⟨sb,hsb⟩: ∃sb,s[n]? =some sb:=⟨_,List.getElem?_eq_getElem (by rw[HSn.out.len];exact n1)⟩;obtain⟨cS,fS⟩:=zz hS;have cSn:=cS n _ (zay hsb);clear hsb cS hrb;go_wp2;go_roundw
    case rel=>exact⟨k+1,s.set n true,by omega,by go_num,zgn hS,Ext.setCell hE hbs' _,HSn.out.mark (Rch.root Hu.out Hr.out),(HRi.out.mark n).next (fun _ n' hn'=>by
     rw[Hr.out]at hn';have e:n'=n:=by injection hn' with hn';omega
     subst e;exact zce.2 (.inl ⟨rfl,by rw[HSn.out.len];exact n1⟩))⟩
    case measure=>simp[intOf];omega
  ·have hdec:decide ((k:Int)<g.us.length)=false:=by simp;omega
   have hdec':decide (k<g.us.length)=false:=by simp;omega
   have hkn:k=g.us.length:=by omega
   subst hkn;go_wp2_with fail;go_loopw [6] (fun t wr=> ∃(b:Bool) (s:List Bool),t= .bool b∧wr.ownsRow W.heap.size 4 1 (.slice (some ⟨bs,0,none⟩) g.ns.length g.ns.length) g.ns.length (vb s)∧Ext W wr∧Snd g s∧qd g s g.us.length∧(b=false->vc g s g.ns.length)) (fun t wr=>2*zhz wr bs g.ns.length+zrc t);case atStart=>exact⟨true,s,rfl,hS,hE,HSn.out,HRi.out,fun h=>by cases h⟩
   case round=>
    clear hS hE HSn HRi k1' m1' lb s hk hlt hdec hdec';obtain⟨b,s0,rfl,hS,hE,hSn,hRi,hCl⟩:=hrel;have m1':=(k1.ext hE).cell;cases b
    ·have hfin:=zhx hSn (zhw hSn hRi (hCl rfl))
     have Hf:=Lib.hid hfin;clear hfin hSn hRi hCl;clear hU0 hC0 hlu hlr;have bn:(g.ns.length:Int)<=1000:=by omega
     go_wp2_with fail;go_loopw [11,73] (fun t i wr=> ∃(k:Nat) (B:Option Addr) (d:Nat),k<=g.ns.length∧i= .int .i64 k∧t= .slice B (xK s0 k).length d∧wr.ownsRow W.heap.size 3 1 (.slice B (xK s0 k).length d) (xK s0 k).length (yb (zeb (xK s0 k)))∧wr.ownsRow W.heap.size 4 1 (.slice (some ⟨bs,0,none⟩) g.ns.length g.ns.length) g.ns.length (vb s0)∧Ext W wr) (fun _ i _=>g.ns.length-(intOf i).toNat);case atStart=>exact⟨0,none,0,by omega,rfl,rfl,zP _ _ _ _,hS,hE⟩
     case round=>
      clear hS hE m1';obtain⟨k,B,d,hk,rfl,rfl,hO,hS,hE⟩:=hrel;have hll:=zcg s0 k;by_cases hlt:k<g.ns.length
      ·have hdec:decide ((k:Int)<g.ns.length)=true:=by simp;omega
       have hdec':decide (k<g.ns.length)=true:=by simp;omega
       have hkb:(k:Int)<g.ns.length:=by omega
       obtain⟨u,hu⟩: ∃u,s0[k]? =some u:=⟨_,List.getElem?_eq_getElem (by have:=hS.1;simp[vb]at this;omega)⟩;obtain⟨cS,fS⟩:=zz hS;have cSk:=cS k _ (zay hu);have Hu:=Lib.hid hu;have lb:=(World.ownsRow.lt hS bs rfl).2;have hez:=hE.size_le;clear hu cS;cases u
       ·have hs:=zdo Hu.out
        have Hs:=Lib.hid hs;clear hs;go_wp2;go_roundw;case rel=>exact⟨k+1,B,d,by omega,by go_num,by rw[Hs.out],by rw[Hs.out];exact hO,hS,hE⟩
        case measure=>simp[intOf];omega
       ·have hs:=zcf Hu.out
        have Hs:=Lib.hid hs;clear hs;generalize hzl:xK s0 k=zl at*;have Hzl:=Lib.hid hzl;clear hzl;go_wp2_with(first|(at_builtin;refine zJ rfl Tryz.el22 _ _ rfl W.heap.size _ _ _ rfl (z8 hO _) _ 1 1 _ rfl (xm _ _ _) (by simp[Value.oneCell']) (by omega) (by omega) (by(first|omega|(simp;done)|(simp;omega))) ?_;intro A2 c2 w2 hO2 hg2 hat2))
        have hne: ∀q,(Value.slice (some ⟨bs,0,none⟩) g.ns.length g.ns.length).ownBlock=some q->q∉(Value.slice B zl.length d).ownBlock.toList:=fun q hq hm=>by
         have h2:(Value.slice B zl.length d).ownBlock=some q:=by simpa using hm
         exact zdk hS hO (Ext.refl _) (by decide) q hq h2
        have g2:(wr.alloc (.cells #[.int .i64 (k:Int)] 3)).grownBy w2 (Value.slice B zl.length d).ownBlock:=hg2;have hE2:Ext W w2:=yy (Ext.alloc hE _) hg2 (z8 hO _) (Nat.le_refl _);have hl2:(zl++ [k]).length=zl.length+1:=by simp
        rw[zk0]at hO2;have hS2:=zo (z8 hS (.cells #[.int .i64 (k:Int)] 3)) (zL g2) hne;have Hl2:=Lib.hid hl2;clear hl2 hne;go_roundw;case rel=>exact⟨k+1,A2,c2,by omega,by go_num,by rw[Hs.out,Hl2.out],by rw[Hs.out,Hl2.out];exact hO2,hS2,hE2⟩
        case measure=>simp[intOf];omega
      ·have hdec:decide ((k:Int)<g.ns.length)=false:=by simp;omega
       have hdec':decide (k<g.ns.length)=false:=by simp;omega
       have hkn:k=g.ns.length:=by omega
       subst hkn;rw[Hf.out]at hO|-;go_wp2;go_ret;exact⟨B,d,by rw[zcj];rfl,by rw[zcj];exact zu hO hsz,hX.trans hE⟩
    ·have hsl:=hSn.len
     have hun:=zci hS;have HSn:=Lib.hid hSn;have HRi:=Lib.hid hRi;have Hun:=Lib.hid hun;have lb:=(World.ownsRow.lt hS bs rfl).2;clear hSn hRi hCl hun hsl;have bn:(g.ns.length:Int)<=1000:=by omega
     go_wp2_with fail;go_loopw [6,39] (fun t i wr=> ∃(b:Bool) (s:List Bool) (k:Nat),t= .bool b∧i= .int .i64 k∧k<=g.ns.length∧wr.ownsRow W.heap.size 4 1 (.slice (some ⟨bs,0,none⟩) g.ns.length g.ns.length) g.ns.length (vb s)∧Ext W wr∧Snd g s∧qd g s g.us.length∧(b=false->s=s0∧vc g s k)∧(b=true->s.count false<s0.count false)) (fun _ i _=>g.ns.length-(intOf i).toNat);case atStart=>exact⟨false,s0,0,rfl,rfl,by omega,hS,hE,HSn.out,HRi.out,fun _=>⟨rfl,fun m n j x hm=>by omega⟩,fun h=>by cases h⟩
     case round=>
      clear hS hE m1' lb;obtain⟨b,s,k,rfl,rfl,hk,hS,hE,hSn,hRi,hC0,hC1⟩:=hrel;have m1':=(k1.ext hE).cell;have lb:=(World.ownsRow.lt hS bs rfl).2;by_cases hlt:k<g.ns.length
      ·have hdec:decide ((k:Int)<g.ns.length)=true:=by simp;omega
       have hdec':decide (k<g.ns.length)=true:=by simp;omega
       have hkb:(k:Int)<g.ns.length:=by omega
       obtain⟨x,hx0⟩: ∃x,g.ns[k]? =some x:=⟨_,List.getElem?_eq_getElem hlt⟩;obtain⟨ba,oa,R,cR,D,cD,rfl,q0,q1,hR,hD,lq0⟩:=hgW.node hx0;replace q0:=zp hE q0;replace q1:=zp hE q1;have lq:=zh q0;have hn:=Hv.out.nd k x hx0;have hxl:=hn.1;have Hn:=Lib.hid hn.2.2;have Hx:=Lib.hid hx0;clear hx0 hn hD;have HSn:=Lib.hid hSn;have HRi:=Lib.hid hRi;have HC0:=Lib.hid hC0;have HC1:=Lib.hid hC1;clear hSn hRi hC0 hC1;go_upto_region 14 with fail;have hX5:=Ext.alloc (Ext.refl wr) (.cells #[.slice R x.1.length cR,.slice D x.2.length cD] 106);have k5:Blk (wr.alloc (.cells #[.slice R x.1.length cR,.slice D x.2.length cD] 106)) wr.heap.size 106 #[.slice R x.1.length cR,.slice D x.2.length cD]:=Blk.new rfl;generalize hW5:wr.alloc (.cells #[.slice R x.1.length cR,.slice D x.2.length cD] 106)=W5 at hX5 k5|-;clear hW5;obtain⟨q,hq⟩: ∃q,q=wr.heap.size:=⟨_,rfl⟩;rw[<-hq]at k5;rw[<-hq];have hqb:q≠bs:=by omega
       have hbq:bs≠q:=by omega
       have hqW:W.heap.size<=q:=by have:=hE.size_le;omega
       have hS5:=zm hS hX5;have hE5:=hE.trans hX5;clear hq hS m1' q0 q1 lq0;have m5:=k5.cell;have l5:=k5.lt;go_wp2_with fail;go_loopw [6,47] (fun t i wd=> ∃(b:Bool) (s:List Bool) (j:Nat),t= .bool b∧i= .int .i64 j∧j<=x.1.length∧wd.ownsRow W.heap.size 4 1 (.slice (some ⟨bs,0,none⟩) g.ns.length g.ns.length) g.ns.length (vb s)∧Ext W wd∧Snd g s∧qd g s g.us.length∧(b=false->s=s0∧vc g s k∧(s[k]? =some true-> ∀(i n:Nat),i<j->x.1[i]? =some (n:Int) ->s[n]? =some true))∧(b=true->s.count false<s0.count false)) (fun _ i _=>x.1.length-(intOf i).toNat);case atStart=>exact⟨b,s,0,rfl,rfl,by omega,hS5,hE5,HSn.out,HRi.out,fun hb=>⟨(HC0.out hb).1,(HC0.out hb).2,fun _ i n hi=>by omega⟩,HC1.out⟩
       case round=>
        clear hS5 hE5 HSn HRi HC0 HC1 m5 l5 lb;obtain⟨b,s,j,rfl,rfl,hj,hS,hE,hSn,hRi,hC0,hC1⟩:=hrel;have HSn:=Lib.hid hSn;have HRi:=Lib.hid hRi;have HC0:=Lib.hid hC0;have HC1:=Lib.hid hC1;have lb:=(World.ownsRow.lt hS bs rfl).2;clear hSn hRi hC0 hC1;have hnode: ∀(i:Nat),i<g.ns.length-> ∃u,s[i]? =some u:=fun i hi=>⟨_,List.getElem?_eq_getElem (by rw[HSn.out.len];exact hi)⟩
        obtain⟨u,hu⟩:=hnode k hlt;obtain⟨cS,fS⟩:=zz hS;have cSk:=cS k _ (zay hu);have Hu:=Lib.hid hu;have Hnode:=Lib.hid hnode;clear hu hnode;by_cases hjl:j<x.1.length
        ·have jd:decide ((j:Int)<x.1.length)=true:=by simp;omega
         have jd':decide (j<x.1.length)=true:=by simp;omega
         have jb:(j:Int)<x.1.length:=by omega
         obtain⟨r,hr⟩: ∃r,x.1[j]? =some r:=⟨_,List.getElem?_eq_getElem hjl⟩;have hrb:=Hn.out j r hr;obtain⟨bR,oR,rfl,hcr⟩:=zjd (hR.ext hE) hr;have lR:=zh hcr;have Hr:=Lib.hid hr;clear hr;cases u
         ·clear cS
          go_wp2;go_roundw;case rel=>exact⟨b,s,j+1,rfl,by go_num,by omega,hS,hE,HSn.out,HRi.out,fun hb=>⟨(HC0.out hb).1,(HC0.out hb).2.1,fun hk=>by rw[Hu.out]at hk;cases hk⟩,HC1.out⟩
          case measure=>simp[intOf];omega
         ·by_cases hr0:r<0
          ·have e:r= -1:=by omega
           subst e;clear cS;go_wp2;go_roundw
           case rel=>exact⟨b,s,j+1,rfl,by go_num,by omega,hS,hE,HSn.out,HRi.out,fun hb=>⟨(HC0.out hb).1,(HC0.out hb).2.1,fun hk i n hi hn=>by
            rcases Nat.lt_or_ge i j with h1|h1
            ·exact(HC0.out hb).2.2 hk i n h1 hn
            ·have:i=j:=by omega
             subst this;rw[Hr.out]at hn;injection hn with hn;omega⟩,HC1.out⟩
           case measure=>simp[intOf];omega
          ·obtain⟨n,rfl⟩: ∃n:Nat,r=n:=⟨r.toNat,by omega⟩
           have n1:n<g.ns.length:=by omega
           have n2:(n:Int)<g.ns.length:=by omega
           have n3:decide ((0:Int)<=n)=true:=by simp
           obtain⟨t,ht⟩:=Hnode.out n n1;have cSn:=cS n _ (zay ht);have Ht:=Lib.hid ht;clear ht cS hrb hr0;cases t
           ·go_wp2
            go_roundw
            case rel=>
             have hlt2:=zcd Ht.out
             have hle:s.count false<=s0.count false:=by
              cases b
              ·rw[(HC0.out rfl).1];omega
              ·have:=HC1.out rfl;omega
             exact⟨true,s.set n true,j+1,rfl,by go_num,by omega,zgn hS,Ext.setCell hE hbs' _,HSn.out.mark (Rch.step (HSn.out.snd k Hu.out) Hx.out Hr.out),HRi.out.mark n,(fun h=>by cases h),fun _=>by omega⟩
            case measure=>simp[intOf];omega
           ·go_wp2
            go_roundw
            case rel=>exact⟨b,s,j+1,rfl,by go_num,by omega,hS,hE,HSn.out,HRi.out,fun hb=>⟨(HC0.out hb).1,(HC0.out hb).2.1,fun hk i m hi hm=>by
             rcases Nat.lt_or_ge i j with h1|h1
             ·exact(HC0.out hb).2.2 hk i m h1 hm
             ·have:i=j:=by omega
              subst this;rw[Hr.out]at hm;injection hm with hm;have:m=n:=by omega
              subst this;exact Ht.out⟩,HC1.out⟩
            case measure=>simp[intOf];omega
        ·have jd:decide ((j:Int)<x.1.length)=false:=by simp;omega
         have jd':decide (j<x.1.length)=false:=by simp;omega
         have hjn:j=x.1.length:=by omega
         subst hjn;clear cS cSk;go_wp2_with fail;go_roundw
         case rel=>exact⟨b,s,k+1,rfl,by go_num,by omega,hS,hE,HSn.out,HRi.out,fun hb=>⟨(HC0.out hb).1,(HC0.out hb).2.1.next (fun n i y h1 h2 h3=>by
          rw[Hx.out]at h2;injection h2 with h2;subst h2;exact(HC0.out hb).2.2 h1 i n (List.getElem?_eq_some_iff.1 h3).1 h3)⟩,HC1.out⟩
         case measure=>simp[intOf];omega
      ·have hdec:decide ((k:Int)<g.ns.length)=false:=by simp;omega
       have hdec':decide (k<g.ns.length)=false:=by simp;omega
       have hkn:k=g.ns.length:=by omega
       subst hkn;have HC:=Lib.hid hC1;go_wp2_with fail;go_roundw;case rel=>exact⟨b,s,rfl,hS,hE,hSn,hRi,fun hb=>(hC0 hb).2⟩
       case measure=>
        rw[zci hS,Hun.out];cases b
        ·rw[(hC0 rfl).1];simp[zrc]
        ·have:=hC1 rfl
         simp[zrc];omega
end Go.Proofs.YtopcdfbplknmlaaGreat.Mo
