/- Part of the proof of the claim: walks and plain laws; each theorem states its own conditions. -/
import Derived.Test.YtopcdfbplknmlaaGreatL
import Derived.Test.YtopcdfbplknmlaaGreatG15
import Derived.Test.YtopcdfbplknmlaaGreatG12
import Derived.Test.YtopcdfbplknmlaaGreatG14
import Derived.Test.YtopcdfbplknmlaaGreatG3
set_option linter.all false
set_option maxHeartbeats 8000000
set_option maxRecDepth 100000
namespace Go.Proofs.YtopcdfbplknmlaaGreat
open Go.RowKit Go.Draw
theorem zdc(P:Hpl)(M:Hmm)(n:Nat)(w:World)(h:HO w 0 P M)(hg:P.Gd)(hn:n<=1000):Calls Tryz.prog 90 #[.agg (ze P M),.int .i64 n] w (zmm w):=by
 have Hg:=Lib.hid hg;clear hg;go_enter Tryz.func90,Tryz.ntmps90;go_upto_region 1 with fail;refine yN (fun W k2 hE0=> ?_);obtain⟨b2,hb2⟩: ∃b,w.heap.size=b:=⟨_,rfl⟩;rw[hb2]at k2|-;clear hb2;obtain⟨q0,hq0⟩: ∃q0,P.Q[0]? =some q0:=⟨_,List.getElem?_eq_getElem (by have:=Hg.out.ql;have:=Hg.out.ok.good.2.1;omega)⟩;have hP:=zft M.Ac (some ⟨M.gW,0,none⟩) (some ⟨M.gF,0,none⟩) M.A M.cc M.cW M.cF M.c n P.sq P.C P.S M.vs P.Q q0 W (Rd.of_own (zm h.ru hE0)) Hg.out.ok (h.sp.ext hE0).rd Hg.out.sm.f1 Hg.out.sm.f2 Hg.out.sh (h.bo.ext hE0) hq0 Hg.out.sm.q1 Hg.out.sm.q2 Hg.out.iw hn;have r0:W.cell? ⟨b2,0,none⟩=some (.string P.C.s):=k2.cell 0;have r1:W.cell? ⟨b2,1,none⟩=some (.slice M.Ac P.C.l.length M.cc):=k2.cell 1;have r2:W.cell? ⟨b2,2,none⟩=some (.int .i64 P.C.f):=k2.cell 2;have r3:W.cell? ⟨b2,3,none⟩=some (.int .i64 P.S.sh):=k2.cell 3;have r4:W.cell? ⟨b2,4,none⟩=some (.slice (some ⟨M.gW,0,none⟩) P.S.ws.length M.cW):=k2.cell 4;have r5:W.cell? ⟨b2,5,none⟩=some (.slice (some ⟨M.gF,0,none⟩) P.S.fs.length M.cF):=k2.cell 5;have r6:W.cell? ⟨b2,6,none⟩=some (.slice M.A P.Q.length M.c):=k2.cell 6;have r7:W.cell? ⟨b2,7,none⟩=some (.int .i64 P.sq):=k2.cell 7;have l2:=k2.lt;clear hq0;go_wp2_with fail;go_at_call 73;refine hP.mono ?_;rintro e w1 ⟨k,⟨iq,ib,ff,il,iw⟩,rfl,_,hE1⟩;simp only[Inc.a];clear hP r0 r1 r2 r3 r4 r5 r6 r7 l2;replace hE1:=hE0.trans hE1;go_wp2_with fail;go_ret;exact⟨⟨_,rfl⟩,by exact jX⟩
theorem HO.bx{w w':World}{base b:Nat}{P:Hpl}{M:Hmm}{xs:Array Value}(h:HO w base P M)(k:Blk w b 38 xs)(hB:But [b] w w'):HO w' base P M:=
 ⟨y4 h.ru k hB (by decide),h.sp.hp k hB,h.bo.hp k hB,h.so.hp k hB,h.hp,⟨y4 h.ro.u k hB (by decide),y4 h.ro.r k hB (by decide)⟩⟩
theorem HO.base_{w:World}{base b:Nat}{P:Hpl}{M:Hmm}(h:HO w base P M)(hb:b<=base):HO w b P M:=⟨zu h.ru hb,h.sp.base_ hb,h.bo.base_ hb,⟨zu h.so.out hb,h.so.each⟩,h.hp,h.ro.base_ hb⟩
theorem HO.bx2{w w':World}{base b:Nat}{P:Hpl}{M:Hmm}{t:TypeId}{xs:Array Value}(h:HO w base P M)(k:Blk w b t xs)(h1:(79:TypeId)≠t)(h2:(67:TypeId)≠t)(h3:(118:TypeId)≠t)(h4:(155:TypeId)≠t)(h5:(144:TypeId)≠t)(h6:(158:TypeId)≠t)(h7:(3:TypeId)≠t∧(4:TypeId)≠t)(hB:But [b] w w'):HO w' base P M:=
 ⟨ye h.ru k hB h1,⟨ye h.sp.W k hB h2,ye h.sp.F k hB h3⟩,⟨h.bo.vl,ye h.bo.out k hB h4,fun i v q hv hq=>ye (h.bo.each i v q hv hq) k hB h5,h.bo.apart⟩,⟨ye h.so.out k hB h6,fun p hp=>ye (h.so.each p hp) k hB h7.1⟩,h.hp,⟨ye h.ro.u k hB h7.2,ye h.ro.r k hB h2⟩⟩
theorem BO.bx2{w w':World}{base c b:Nat}{A:Option Addr}{vs:List Value}{Q:List (List Inc)}{t:TypeId}{xs:Array Value}(h:BO w base A c vs Q)(k:Blk w b t xs)(h4:(155:TypeId)≠t)(h5:(144:TypeId)≠t)(hB:But [b] w w'):BO w' base A c vs Q:=
 ⟨h.vl,ye h.out k hB h4,fun i v q hv hq=>ye (h.each i v q hv hq) k hB h5,h.apart⟩
theorem zq4{P:Program}{c:Code}{Q:Exit->Act->World->Prop}{a:Act}{w:World}{xs:Array Value}{a0 a1 a2 a3:Value}(hxs:xs.size=22)(h: ∀W,Blk W w.heap.size 38 xs->Ext w W->c.wp P Q a W):
 c.wp P Q a ((((w.alloc (.cells y0 38)).alloc (.cells #[.int .i64 0,.int .i64 0,.int .i64 0,.int .i64 0] 176)).setRow w.heap.size xs).setCells (w.heap.size+1) 0 [a0,a1,a2,a3]):=by
 have k10z:Blk ((w.alloc (.cells y0 38)).alloc (.cells #[.int .i64 0,.int .i64 0,.int .i64 0,.int .i64 0] 176)) w.heap.size 38 y0:=Blk.alloc (Blk.new rfl) _;have k10:Blk (((w.alloc (.cells y0 38)).alloc (.cells #[.int .i64 0,.int .i64 0,.int .i64 0,.int .i64 0] 176)).setRow w.heap.size xs) w.heap.size 38 xs:=setRow_heap _ w.heap.size _ xs 38 (0,0) k10z;have e:But [w.heap.size+1] (((w.alloc (.cells y0 38)).alloc (.cells #[.int .i64 0,.int .i64 0,.int .i64 0,.int .i64 0] 176)).setRow w.heap.size xs) ((((w.alloc (.cells y0 38)).alloc (.cells #[.int .i64 0,.int .i64 0,.int .i64 0,.int .i64 0] 176)).setRow w.heap.size xs).setCells (w.heap.size+1) 0 [a0,a1,a2,a3]):=But.setCell (But.setCell (But.setCell (But.setCell (But.refl _ _) (by simp) _) (by simp) _) (by simp) _) (by simp) _;exact h _ (k10.but e (by simp)) (But.ext (y7 (Ext.alloc (Ext.alloc (Ext.refl w) _) _) (Nat.le_refl _) xs) e (fun q hq=>by have:=List.mem_singleton.1 hq;omega))
def jw(w:World)(N B:Nat)(P:Hpl)(r:Ending)(w':World):Prop:= ∃(P':Hpl) (M':Hmm) (bb:Bool),r= .returned (.tuple #[.agg (ze P' M'),.bool bb])∧HO w' 0 P' M'∧w.heap.size<=M'.gW∧w.heap.size<=M'.gF∧Ap P' M'∧BO w' w.heap.size M'.A M'.c M'.vs P'.Q∧(∃I',Hv (N+256) P' B I')∧P'.C=P.C∧(P'.dead=P.dead∧P'.us=P.us)∧Ext w w'
attribute [local go_sem↓] yg yx in
theorem zkl{Q:Ending->World->Prop}{a:Act}{W:World}{g4:Nat}{xs:Array Value}{t5:Value}(hd:a.defers= [])(h4:a.tmps[4]?.getD undef= .pointer (some ⟨g4,0,none⟩))(h5:a.tmps[5]?.getD undef=t5)
 (k4:Blk W g4 38 xs) (h:xs.size=22) (hQ:Q (.returned (.tuple #[.agg xs,t5])) W):bodyPost Tryz.prog Tryz.f81 Q Exit.ret a W:=by
 have hl:=zj k4 h;exact bodyPost_ret (v:= .tuple #[.agg xs,t5]) (by simp[results,Tryz.results81,h4,h5,go_sem,hl]) hd hQ
theorem Hv.wide{N N':Nat}{P:Hpl}{B:Nat}{I:List In}(h:Hv N P B I)(hn:N<=N'):Hv N' P B I:=⟨h.vh,h.wf,h.ok,h.ql,h.bt,by have:=h.s0;omega,by have:=h.ct;omega⟩
theorem zm8{N:Nat}{P:Hpl}{B:Nat}{I:List In}(h:Hv N P B I): ∀{l:List Inc},1<=l.length->(∀i∈l,∃q∈P.Q,i∈q) ->1<=kx l
 | [],h1,_=>by simp at h1
 |i::l,_,hin=>by
  obtain⟨q,hq,hi⟩:=hin i List.mem_cons_self;obtain⟨j,hj,rfl⟩:=h.bt.mem hq hi;have h1:=h.bt.nw j hj
  have h2:=kA (l:=l) (fun i hi=>by
   obtain⟨q,hq,hi⟩:=hin i (List.mem_cons_of_mem _ hi);exact h.gd.iw q hq i hi) l.length
  rw[List.take_length]at h2;unfold kx at*;rw[List.map_cons,List.sum_cons];have:(j.inc).w=(j.wd:Int):=rfl;omega
theorem qQ(P:Hpl)(M:Hmm): ∀j v,[Value.string P.C.s,.slice M.Ac P.C.l.length M.cc,.int .i64 P.C.f][j]? =some v->(ze P M)[0+j]? =some v
 |0,_,h=>h
 |1,_,h=>h
 |2,_,h=>h
 |j+3,_,h=>by simp at h
structure RdI(w:World)(N B b2 b4 b6:Nat)(P Pj:Hpl)(Mj:Hmm)(nb:Nat)(bg:Bool)(ls:Int)(m:Nat)(wr:World):Prop where
 k2:Blk wr b2 38 (ze Pj Mj)
 k4:Blk wr b4 38 y0
 k6:Blk wr b6 171 #[.int .i64 nb,.bool bg,.int .i64 ls]
 ho:HO wr 0 Pj Mj
 gw:w.heap.size<=Mj.gW
 gf:w.heap.size<=Mj.gF
 ap:Ap Pj Mj
 bz:BO wr w.heap.size Mj.A Mj.c Mj.vs Pj.Q
 hv: ∃I,Hv (N+(256-m)) Pj B I
 m1:m<=256
 mz:Go.Proofs.YtopcdfbplknmlaaGreat.mz Pj.Q.length bg ls 0 Pj.Q<=m
 cf:Pj.C=P.C
 de:Pj.dead=P.dead∧Pj.us=P.us
 nl:nb<Pj.Q.length
 be:bg=true->nb+1=Pj.Q.length∧ls<Pj.sq
 cd:Pj.k.cd<=P.k.cd+(256-(m:Int))*6400000
 ex:Ext w wr
theorem zqj{n:Nat}{ls ls':Int}: ∀(Q:List (List Inc)) (k:Nat),mz n false ls k Q=mz n false ls' k Q
 | [],_=>rfl
 |q::Q,k=>by
  have h1:=zqj (n:=n) (ls:=ls) (ls':=ls') Q (k+1);have h2:q.map (wt n false ls k)=q.map (wt n false ls' k):=List.map_congr_left fun i _=>by unfold wt;simp
  simp only[mz,h1,h2]
theorem zpl{Q:List (List Inc)}{nb nb':Nat}{bg bg':Bool}{ls ls':Int}{X:Prop}(hiff:bg'=true↔nb'+1=Q.length)(hold:bg=true->nb'=nb∧ls'=ls)(hbe:bg=true->nb+1=Q.length)(hall:bg=false->bg'=true->(∀q,Q[nb']? =some q-> ∀i∈q,i.q<=ls')∧X):mz Q.length bg' ls' 0 Q=mz Q.length bg ls 0 Q:=by
 cases bg with
 |true=>
  obtain⟨e1,e2⟩:=hold rfl;have:=hbe rfl;have:bg'=true:=hiff.2 (by omega);rw[this,e2]
 |false=>
  cases bg' with
  |false=>exact zqj Q 0
  |true=>
   have hl:=hiff.1 rfl;exact zf2 Q 0 (fun j q hq hj i hi=>(hall rfl rfl).1 q (by rw[show nb'=j by omega];exact hq) i hi) (by omega)
theorem zr4{N:Nat}{P:Hpl}{B nb nb':Nat}{I:List In}{bg bg':Bool}{ls ls':Int}(hv:Hv N P B I)(hold:bg=true->nb'=nb∧ls'=ls)(hbe:bg=true->nb+1=P.Q.length∧ls<P.sq)(hall:bg=false->bg'=true->(∀q,P.Q[nb']? =some q-> ∀i∈q,i.q<=ls')∧(ls'= -1∨∃q∈P.Q,∃y∈q,ls'=y.q))(h:bg'=true):ls'<P.sq:=by
 have hs:=hv.s0;cases bg with
 |true=>
  have:=(hold rfl).2;have:=(hbe rfl).2;omega
 |false=>
  rcases(hall rfl h).2 with e|⟨q,hq,y,hy,e⟩
  ·omega
  ·obtain⟨j,hj,rfl⟩:=hv.bt.mem hq hy
   have:=hv.bt.sq j hj;have e':ls'=j.x.q:=e;omega
theorem zd7(w:World)(zs:Array Value)(nb:Nat)(bg:Bool)(ls:Int)(hz:zs.size=3):(yw ⟨w.heap.size,0,none⟩ [.int .i64 nb,.bool bg,.int .i64 ls]).run Tryz.prog (w.alloc (.cells zs 171))= .ok () (w.alloc (.cells #[.int .i64 nb,.bool bg,.int .i64 ls] 171)):=
 run_storeCells_new (P:=Tryz.prog) w 171 zs #[.int .i64 nb,.bool bg,.int .i64 ls] (by kernel_rfl) (by rw[hz];rfl) (by simp[Value.oneCell'])
structure RdE(w:World)(N B:Nat)(P Pj:Hpl)(Mj:Hmm):Prop where
 gw:w.heap.size<=Mj.gW
 gf:w.heap.size<=Mj.gF
 ap:Ap Pj Mj
 hv: ∃I,Hv (N+256) Pj B I
 cf:Pj.C=P.C
 de:Pj.dead=P.dead∧Pj.us=P.us
theorem RdI.toEnd{w wr:World}{N B b2 b4 b6 nb m:Nat}{P Pj:Hpl}{Mj:Hmm}{bg:Bool}{ls:Int}(h:RdI w N B b2 b4 b6 P Pj Mj nb bg ls m wr):RdE w N B P Pj Mj:=⟨h.gw,h.gf,h.ap,by obtain⟨I,hI⟩:=h.hv;exact⟨I,hI.wide (by omega)⟩,h.cf,h.de⟩
theorem jC{w W:World}{N B b4:Nat}{P Pj:Hpl}{Mj:Hmm}{a:Act}{xs4:Array Value}{bb:Bool}(h:RdE w N B P Pj Mj)(k4:Blk W b4 38 xs4)(hO:HO W 0 Pj Mj)(hZ:BO W w.heap.size Mj.A Mj.c Mj.vs Pj.Q)(hE:Ext w W)(hb:w.heap.size<=b4)
 (hd:a.defers= []) (h4:a.tmps[4]?.getD undef= .pointer (some ⟨b4,0,none⟩)) (h5:a.tmps[5]?.getD undef= .bool bb):bodyPost Tryz.prog Tryz.f81 (jw w N B P) Exit.ret a (W.setRow b4 (ze Pj Mj)):=by
 have e1:=zD W b4 (ze Pj Mj);have k4a:Blk (W.setRow b4 (ze Pj Mj)) b4 38 (ze Pj Mj):=setRow_heap W b4 _ (ze Pj Mj) 38 (0,0) k4;exact zkl hd h4 h5 k4a (za _ _) ⟨Pj,Mj,bb,rfl,hO.bx k4 e1,h.gw,h.gf,h.ap,hZ.hp k4 e1,h.hv,h.cf,h.de,y7 hE hb _⟩
attribute [local go_sem↓] yg qW xd yx in
attribute [local go_sem] xe in
theorem zdd(N B n:Nat)(P:Hpl)(M:Hmm)(I:List In)(w:World)(h:HO w 0 P M)(hv:Hv N P B I)(hN:N<=900000)(hn:n<=1000):Calls Tryz.prog 81 #[.agg (ze P M),.int .i64 n] w (jw w N B P):=by
 have Hv0:=Lib.hid hv;have Hsm:=Lib.hid hv.gd.sm;clear hv;go_enter Tryz.func81,Tryz.ntmps81;go_upto_region 1 with fail;refine za0 (fun W k2 k4 hE0=> ?_);obtain⟨b2,hb2⟩: ∃b,w.heap.size=b:=⟨_,rfl⟩;rw[hb2]at k2 k4|-;have Hb2:=Lib.hid hb2;clear hb2;have hlc:=zj k2 (za P M);go_wp2_with fail;go_at_call 39;refine(qo P M W (h.ext hE0) Hsm.out).mono ?_;rintro e w1 ⟨M1,rfl,hO,hE1,hap⟩;clear hlc;have hszW:=hE0.size_le;replace k2:=k2.ext hE1;replace k4:=k4.ext hE1;have hE:=hE0.trans hE1;have hlt1:=hO.sp.lt;have hst:=zO k2 rfl (za P M1) (zg P M1);have hsz:=za P M1;go_upto_region 2 with fail;clear hst hsz;have e2:=zD w1 b2 (ze P M1);have k2a:Blk (w1.setRow b2 (ze P M1)) b2 38 (ze P M1):=setRow_heap w1 b2 _ (ze P M1) 38 (0,0) k2;have hOa:=hO.bx k2 e2;have k4a:=k4.but e2 (by simp);have hb2:=Hb2.out;have hEa:=But.ext hE e2 (fun q hq=>by have:=List.mem_singleton.1 hq;omega);have hss:(w1.setRow b2 (ze P M1)).heap.size=w1.heap.size:=by simp[World.setRow]
 go_upto_block 0 with fail;refine yN (fun W2 k6 hE2=> ?_);obtain⟨b6,hb6⟩: ∃b,w1.heap.size=b:=⟨_,rfl⟩;have hlt6:=k4a.lt;rw[hss,hb6]at k6 hlt6;rw[hb6];clear hb6 hss
 have hmz:mz P.Q.length false 0 0 P.Q<=256:=by
  have h1:=zqi (n:=P.Q.length) (bg:=false) (ls:=0) (by have:=Hv0.out.ql;have:=Hv0.out.ok.good.2.1;omega) (by have:=Hv0.out.ql;have:=Hv0.out.ok.good.2.2.1;omega) P.Q 0;have h2:=Hv0.out.bt.len;have h3:=Hv0.out.vh.hok.lay.count Hv0.out.bt.nw;omega
 have hI:RdI w N B b2 (b2+1) b6 P P M1 0 false 0 256 W2:=⟨k2a.ext hE2,k4a.ext hE2,k6,(hOa.ext hE2).base_ (Nat.zero_le _),by omega,by omega,hap,((hOa.ext hE2).bo).base_ (by omega),⟨I,Hv0.out⟩,Nat.le_refl _,hmz,rfl,⟨rfl,rfl⟩,by have:=Hv0.out.ql;have:=Hv0.out.ok.good.2.1;omega,by simp,by omega,hEa.trans hE2⟩;clear k2 k4 hO hap hE hlt1 e2 k2a hOa k4a hb2 hEa k6 hE2 hmz hszW hE0 hE1;have hb6':b2+1<b6:=hlt6;clear hlt6;go_wp2_with fail;go_loopw [] (fun wr=> ∃(Pj:Hpl) (Mj:Hmm) (nb:Nat) (bg:Bool) (ls:Int) (m:Nat),RdI w N B b2 (b2+1) b6 P Pj Mj nb bg ls m wr) (fun wr=>(P.k.cd+1638400000-intOf ((wr.cell? ⟨b2,17,none⟩).getD undef)).toNat);case atStart=>exact⟨P,M1,0,false,0,256,hI⟩
 case round=>
  clear hI;obtain⟨Pj,Mj,nb,bg,ls,m,hI⟩:=hrel;have HI:=Lib.hid hI;obtain⟨Ij,hvj⟩:=hI.hv;have Hvj:=Lib.hid hvj;have Hg:=Lib.hid hvj.gd;have k2:=hI.k2;have k6:=hI.k6;have hO:=hI.ho;have hZ:=hI.bz;clear hI hvj;go_upto_region 3 with fail;go_cut [31] (fun s wx=> ∃zb:Bool,s= .bool zb∧Ext wr wx)
  case first=>
   by_cases hn0:n=0
   ·have d0:decide ((0:Int)<(n:Int))=false:=by simp;omega
    have d0':decide (0<n)=false:=by simp;omega
    subst hn0;go_wp2_with fail;go_meet;exact⟨false,rfl,Ext.refl _⟩
   ·have d0:decide ((0:Int)<(n:Int))=true:=by simp;omega
    have d0':decide (0<n)=true:=by simp;omega
    have hn1:0<n:=by omega
    have hlc:=zj k2 (za Pj Mj);clear hn0;go_wp2_with fail;go_at_call 90;refine(zdc Pj Mj n wr hO Hg.out hn).mono ?_;rintro e w3 ⟨⟨z,rfl⟩,hE3⟩;clear hlc;cases z with
    |true=>
     go_wp2_with fail;go_meet;exact⟨false,rfl,hE3⟩
    |false=>
     have k2r:=k2.ext hE3;have hls:=yd k2r 0 3 _ rfl (qQ Pj Mj);have r6:w3.cell? ⟨b2,6,none⟩=some (.slice Mj.A Pj.Q.length Mj.c):=k2r.cell 6;have l2:=k2r.lt;go_wp2_with fail;go_at_call 94;refine(zmw Mj.Ac Mj.A Mj.cc Mj.c Pj.C Mj.vs Pj.Q w3 (Rd.of_own (zm hO.ru hE3)) Hg.out.ok (hO.bo.ext hE3) Hg.out.ql Hg.out.sm.q2).mono ?_;rintro e w4 ⟨⟨Ao,no,co,rfl⟩,hE4⟩;clear hls r6 l2;go_wp2_with fail;go_meet;exact⟨_,rfl,hE3.trans hE4⟩
  case rest=>
   obtain⟨zb,rfl,hEc⟩:=hcut;replace k2:=k2.ext hEc;replace k6:=k6.ext hEc;have k4:=HI.out.k4.ext hEc;replace hO:=hO.ext hEc;replace hZ:=hZ.ext hEc;have hEw:=HI.out.ex.trans hEc;obtain⟨wa,hwa⟩: ∃wa,wa=wc:=⟨_,rfl⟩;subst hwa;cases zb with
   |true=>
    have hlc:=zj k2 (za Pj Mj);have hst:=zO k4 rfl (za Pj Mj) (zg Pj Mj);have hsz:=za Pj Mj;go_wp2_with fail;exact jC HI.out.toEnd k4 hO hZ hEw (by have:=Hb2.out;omega) rfl rfl rfl
   |false=>
    have hls:=yd k2 0 3 _ rfl (qQ Pj Mj);have hls2:=yd k2 3 3 _ rfl (yH Pj Mj);have r6:wa.cell? ⟨b2,6,none⟩=some (.slice Mj.A Pj.Q.length Mj.c):=k2.cell 6;have hl6:=yd k6 0 3 [.int .i64 nb,.bool bg,.int .i64 ls] rfl (fun j v hv=>by simpa using hv);have l2:=k2.lt;have l6:=k6.lt;have hch:=zhc Mj.Ac (some ⟨Mj.gW,0,none⟩) (some ⟨Mj.gF,0,none⟩) Mj.A Mj.cc Mj.cW Mj.cF Mj.c nb bg ls Pj.C Pj.S Mj.vs Pj.Q wa (Rd.of_own hO.ru) Hg.out.ok hO.sp.rd Hg.out.sm.f2 Hg.out.sh hO.bo Hg.out.ql Hg.out.sm.q2 Hg.out.iw Hvj.out.bt.asc HI.out.nl (fun hb=>(HI.out.be hb).1);go_wp2_with fail;go_at_call 95;refine hch.mono ?_;rintro e w5 ⟨Al,cl,out,nb',bg',ls',en,rfl,hown,hE5,hnb',hiff,hold,hall,hin,hlen⟩;clear hls hls2 r6 hl6 l2 l6 hch;have Hiff:=Lib.hid hiff;have Hold:=Lib.hid hold;have Hall:=Lib.hid hall;have Hin:=Lib.hid hin;have Hlen:=Lib.hid hlen;clear hiff hold hall hin hlen;replace k2:=k2.ext hE5;replace k4:=k4.ext hE5;replace k6:=k6.ext hE5;replace hO:=hO.ext hE5;replace hZ:=hZ.ext hE5;have hEw5:=hEw.trans hE5;have hsc:=fun zs hz=>zd7 w5 zs nb' bg' ls' hz
    go_upto_region 6 with fail;clear hsc;refine yN (fun W6 k8 hE6=> ?_);have hlt8:=k6.lt;obtain⟨b8,hb8⟩: ∃b,w5.heap.size=b:=⟨_,rfl⟩;rw[hb8]at k8 hlt8|-;clear hb8;replace k2:=k2.ext hE6;replace k4:=k4.ext hE6;replace k6:=k6.ext hE6;replace hO:=hO.ext hE6;replace hZ:=hZ.ext hE6;replace hEw5:=hEw5.trans hE6;replace hown:=zm hown hE6;have hl8:=yd k8 0 3 [.int .i64 nb',.bool bg',.int .i64 ls'] rfl (fun j v hv=>by simpa using hv);have hs6:=yE k6 0 [.int .i64 nb',.bool bg',.int .i64 ls'] (by simp) (by simp[Value.oneCell']);have l8:=k8.lt;go_upto_region 7 with fail;clear hl8 hs6 l8;have e6:But [b6] W6 (W6.setCells b6 0 [.int .i64 nb',.bool bg',.int .i64 ls']):=But.setCell (But.setCell (But.setCell (But.refl _ _) (by simp) _) (by simp) _) (by simp) _;have k6n:Blk (W6.setCells b6 0 [.int .i64 nb',.bool bg',.int .i64 ls']) b6 171 #[.int .i64 nb',.bool bg',.int .i64 ls']:=((k6.set_ 0 _).set_ 1 _).set_ 2 _;have hb2:=Hb2.out;have hE7:=But.ext hEw5 e6 (fun q hq=>by have:=List.mem_singleton.1 hq;omega);have hO7:=hO.bx2 k6 (by decide) (by decide) (by decide) (by decide) (by decide) (by decide) (by decide) e6;have hZ7:=hZ.bx2 k6 (by decide) (by decide) e6;have hown7:=ye hown k6 e6 (by decide);replace k2:=k2.but e6 (by simp;omega);replace k4:=k4.but e6 (by simp;omega);clear k6 k8 e6 hO hZ hEw5 hown hE6 hE5;generalize W6.setCells b6 0 [.int .i64 nb',.bool bg',.int .i64 ls']=W7 at*;cases en with
    |true=>
     have r16:W7.cell? ⟨b2,16,none⟩=some (.int .i64 Pj.k.rd):=k2.cell 16;have r11:W7.cell? ⟨b2,11,none⟩=some (.int .i64 Pj.si):=k2.cell 11;have l2:=k2.lt;have f2:=k2.froz;go_upto_region 10 with fail;clear r16 r11 l2 f2;have k2n:Blk ((W7.setCell ⟨b2,11,none⟩ (.int .i64 0)).setCell ⟨b2,16,none⟩ (.int .i64 (wrap64 (Pj.k.rd+1)))) b2 38 (ze {Pj with si:=0,k:={Pj.k with rd:=wrap64 (Pj.k.rd+1)}} Mj):=(k2.set_ 11 _).set_ 16 _;have e2:But [b2] W7 ((W7.setCell ⟨b2,11,none⟩ (.int .i64 0)).setCell ⟨b2,16,none⟩ (.int .i64 (wrap64 (Pj.k.rd+1)))):=But.setCell (But.setCell (But.refl _ _) (by simp) _) (by simp) _;have hO8:=hO7.bx k2 e2;have hZ8:=hZ7.hp k2 e2;have hE8:=But.ext hE7 e2 (fun q hq=>by have:=List.mem_singleton.1 hq;omega);replace k4:=k4.but e2 (by simp);generalize(W7.setCell ⟨b2,11,none⟩ (.int .i64 0)).setCell ⟨b2,16,none⟩ (.int .i64 (wrap64 (Pj.k.rd+1)))=W8 at*;have HI':=HI.out.toEnd;have hR:RdE w N B P {Pj with si:=0,k:={Pj.k with rd:=wrap64 (Pj.k.rd+1)}} Mj:=⟨HI'.gw,HI'.gf,HI'.ap,by obtain⟨I,hI⟩:=HI'.hv;exact⟨I,⟨hI.vh,hI.wf,hI.ok,hI.ql,hI.bt,hI.s0,hI.ct⟩⟩,HI'.cf,HI'.de⟩;have hO9:HO W8 0 {Pj with si:=0,k:={Pj.k with rd:=wrap64 (Pj.k.rd+1)}} Mj:=⟨hO8.ru,hO8.sp,hO8.bo,hO8.so,hO8.hp,hO8.ro⟩;obtain⟨Pk,hPk⟩: ∃Pk:Hpl,Pk={Pj with si:=0,k:={Pj.k with rd:=wrap64 (Pj.k.rd+1)}}:=⟨_,rfl⟩;have hZ9:BO W8 w.heap.size Mj.A Mj.c Mj.vs {Pj with si:=0,k:={Pj.k with rd:=wrap64 (Pj.k.rd+1)}}.Q:=hZ8;rw[<-hPk]at hR hO9 hZ9 k2n;clear hPk;have hlc:=zj k2n (za Pk Mj);have hst:=zO k4 rfl (za Pk Mj) (zg Pk Mj);have hsz:=za Pk Mj;go_wp2_with fail;exact jC hR k4 hO9 hZ9 hE8 (by omega) rfl rfl rfl
    |false=>
     by_cases hz:out.length=0
     ·have hz1:((out.length:Int)==0)=true:=by rw[beq_iff_eq];omega
      have hz1':(out.length==0)=true:=by rw[beq_iff_eq];omega
      have Hz:=Lib.hid hz;clear hz;have hlc:=zj k2 (za Pj Mj);have hst:=zO k4 rfl (za Pj Mj) (zg Pj Mj);have hsz:=za Pj Mj;go_wp2_with fail;exact jC HI.out.toEnd k4 hO7 hZ7 hE7 (by omega) rfl rfl rfl
     ·have hz1:((out.length:Int)==0)=false:=by rw[beq_eq_false_iff_ne];omega
      have hz1':(out.length==0)=false:=by rw[beq_eq_false_iff_ne];omega
      have Hz:=Lib.hid (show 1<=out.length by omega);clear hz;obtain⟨q0,hq0⟩: ∃q0,Pj.Q[nb']? =some q0:=⟨_,List.getElem?_eq_getElem hnb'⟩
      have hol:out.length<=64:=by
       have h1:=Hlen.out q0 hq0;have h2:=Hvj.out.bt.qlen (List.mem_of_getElem? hq0);have h3:=Hvj.out.vh.hok.lay.count Hvj.out.bt.nw;omega
      have hinq: ∀i∈out,i∈q0:=fun i hi=>by
       obtain⟨q,hq,hm,_⟩:=Hin.out i hi;rw[hq0]at hq;injection hq with hq;rw[hq];exact hm
      have hdo:=zq3 (N+(256-m)) B nb' cl Pj Mj Ij Al out q0 W7 hO7 Hvj.out (by omega) (zu hown7 (Nat.zero_le _)) Hz.out (by omega) hq0 hinq;have Hq0:=Lib.hid hq0;have Hinq:=Lib.hid hinq;have Hol:=Lib.hid hol;clear hq0 hinq hol hown7;have hlc:=zj k2 (za Pj Mj);go_wp2_with fail;go_at_call 96;refine hdo.mono ?_;rintro e w8 ⟨xs,a0,a1,a2,a3,er,rfl,hxs,hx1,hE8,hcase⟩;clear hlc hdo;have Hcase:=Lib.hid hcase;clear hcase;have k10z:Blk ((w8.alloc (.cells y0 38)).alloc (.cells #[.int .i64 0,.int .i64 0,.int .i64 0,.int .i64 0] 176)) w8.heap.size 38 y0:=Blk.alloc (Blk.new rfl) _;have k11z:Blk ((w8.alloc (.cells y0 38)).alloc (.cells #[.int .i64 0,.int .i64 0,.int .i64 0,.int .i64 0] 176)) (w8.heap.size+1) 176 #[.int .i64 0,.int .i64 0,.int .i64 0,.int .i64 0]:=Blk.new (by simp);have hst:=zO k10z rfl hxs hx1;have hst2:=kz (k11z.but (zD _ w8.heap.size xs) (by simp)) a0 a1 a2 a3;simp only[y0]at hst hst2;clear k10z k11z;go_upto_region 14 with fail;clear hst hst2;refine zq4 hxs (fun WX k10 hEX=> ?_);obtain⟨b10,hb10⟩: ∃b,w8.heap.size=b:=⟨_,rfl⟩;have hlt10:=(k6n.ext hE8).lt;rw[hb10]at k10 hlt10|-;clear hb10;have hE9:=hE8.trans hEX;have hO9:=hO7.ext hE9;have hZ9:=hZ7.ext hE9;have hsz7:=hE7.size_le;have hE10:=hE7.trans hE9;replace k2:=k2.ext hE9;replace k4:=k4.ext hE9;have k6:=k6n.ext hE9;clear hO7 hZ7 hE7 k6n hE8 hE9;by_cases her:er=0
      case neg=>
       have he1':(er !=0)=true:=by simpa using her
       have hlc:=zj k2 (za Pj Mj);have hst:=zO k4 rfl (za Pj Mj) (zg Pj Mj);have hsz:=za Pj Mj;clear her;go_wp2_with fail;exact jC HI.out.toEnd k4 hO9 hZ9 hE10 (by omega) rfl rfl rfl
      case pos=>
       subst her;obtain⟨P',M',t,rr,hxe,hO',hgw,hgf,hap',hbz',⟨I',hv'⟩,hrr,hrt,htl,hstp,hcd⟩:=Hcase.out.resolve_left (by simp)|>.2;subst hxe;have Hv':=Lib.hid hv';have Hstp:=Lib.hid hstp;have Hrr:=Lib.hid hrr;have Hrt:=Lib.hid hrt;have Hcd:=Lib.hid hcd;clear hv' hstp hrr hrt hcd;have hlc:=zj k10 (za P' M');have hst:=zO k2 rfl (za P' M') (zg P' M');have hsz:=za P' M';go_wp2_with fail;have e2:=zD WX b2 (ze P' M');have k2n:Blk (WX.setRow b2 (ze P' M')) b2 38 (ze P' M'):=setRow_heap WX b2 _ (ze P' M') 38 (0,0) k2;have hlen':P'.Q.length=Pj.Q.length:=by rw[Hv'.out.ql,Hstp.out.1,Hvj.out.ql]
       have hsb:=kA (l:=out) (fun i hi=>Hg.out.iw q0 (List.mem_of_getElem? Hq0.out) i (Hinq.out i hi)) out.length;rw[List.take_length]at hsb;have hsp:=zm8 Hvj.out Hz.out (fun i hi=>⟨q0,List.mem_of_getElem? Hq0.out,Hinq.out i hi⟩);have hol:=Hol.out;have hcdm:=HI.out.cd;have hm1:=HI.out.m1;have hcd':=Hcd.out;have hnx:=zpl (X:=ls'= -1∨∃q∈Pj.Q,∃y∈q,ls'=y.q) Hiff.out Hold.out (fun hb=>(HI.out.be hb).1) Hall.out;have hll:=zr4 Hvj.out Hold.out HI.out.be Hall.out
       have hms:mz P'.Q.length bg' ls' 0 P'.Q<mz Pj.Q.length bg ls 0 Pj.Q:=by
        rw[<-hnx,hlen'];obtain⟨i,hi⟩: ∃i,i∈out:=List.exists_mem_of_length_pos Hz.out;have hru:=Hvj.out.ok.good.2.2.2.1 nb' rr Hrr.out;obtain⟨q,hq,_,hqls⟩:=Hin.out i hi;have hrt':=Hrt.out;rw[<-Hvj.out.ql]at hru;refine Hstp.out.sinks Hq0.out (Hinq.out i hi) (List.mem_map_of_mem (f:=fun j:Inc=>j.q) hi) htl (fun hn=> ?_) (fun hn=> ?_) (fun hn=>hll (Hiff.out.2 hn)) hnb'
        ·have:=hru.2.2.2.2.2.2 (by omega)
         omega
        ·have:=(hru.2.2.2.2.2.1 hn).2
         exact⟨Hiff.out.2 hn,hqls (Hiff.out.2 hn),by omega⟩
       have hmzm:=HI.out.mz
       have hI':RdI w N B b2 (b2+1) b6 P P' M' nb' bg' ls' (m-1) (WX.setRow b2 (ze P' M')):=
        ⟨k2n,k4.but e2 (by simp),k6.but e2 (by simp;omega),(hO'.ext hEX).bx k2 e2,by omega,by omega,hap',((hbz'.ext hEX).hp k2 e2).base_ (by omega),⟨I',Hv'.out.wide (by omega)⟩,by omega,by omega,Hstp.out.1.trans HI.out.cf,⟨Hstp.out.2.1.1.trans HI.out.de.1,Hstp.out.2.1.2.trans HI.out.de.2⟩,by omega,fun hb=>⟨by rw[hlen'];exact Hiff.out.1 hb,by have:=hll hb;have:=Hstp.out.2.2.1;omega⟩,by omega,y7 hE10 (by omega) _⟩
       have hc1:=k2n.cell 17;have hc2:=HI.out.k2.cell 17;clear hlc hst hsz;go_wp2_with fail;go_roundw;case rel=>exact⟨P',M',nb',bg',ls',m-1,hI'⟩
       case measure=>
        have m1:(WX.setRow b2 (ze P' M')).cell? ⟨b2,17,none⟩=some (.int .i64 P'.k.cd):=hc1;have m2:wr.cell? ⟨b2,17,none⟩=some (.int .i64 Pj.k.cd):=hc2;rw[m1,m2];simp only[Option.getD_some,intOf];have:=hI'.cd;omega
attribute [local go_sem↓] yg yx in
theorem zm9{Q:Ending->World->Prop}{a:Act}{W:World}{g2:Nat}{xs:Array Value}{t3:Value}(hd:a.defers= [])(h2:a.tmps[2]?.getD undef= .pointer (some ⟨g2,0,none⟩))(h3:a.tmps[3]?.getD undef=t3)
 (k2:Blk W g2 38 xs) (h:xs.size=22) (hQ:Q (.returned (.tuple #[.agg xs,t3])) W):bodyPost Tryz.prog Tryz.f58 Q Exit.ret a W:=by
 have hl:=zj k2 h;exact bodyPost_ret (v:= .tuple #[.agg xs,t3]) (by simp[results,Tryz.results58,h2,h3,go_sem,hl]) hd hQ
attribute [local go_sem↓] yg yx in
theorem zpm{Q:Ending->World->Prop}{a:Act}{W:World}{g4:Nat}{xs:Array Value}{t5:Value}(hd:a.defers= [])(h4:a.tmps[4]?.getD undef= .pointer (some ⟨g4,0,none⟩))(h5:a.tmps[5]?.getD undef=t5)
 (k4:Blk W g4 38 xs) (h:xs.size=22) (hQ:Q (.returned (.tuple #[.agg xs,t5])) W):bodyPost Tryz.prog Tryz.f75 Q Exit.ret a W:=by
 have hl:=zj k4 h;exact bodyPost_ret (v:= .tuple #[.agg xs,t5]) (by simp[results,Tryz.results75,h4,h5,go_sem,hl]) hd hQ
theorem zde{w w1 w':World}{N B:Nat}{P:Hpl}{P':Hpl}{M':Hmm}{bb:Bool}(h1:HO w' 0 P' M')(h2:w1.heap.size<=M'.gW)(h3:w1.heap.size<=M'.gF)(h4:Ap P' M')(hz:BO w' w1.heap.size M'.A M'.c M'.vs P'.Q)(h5: ∃I',Hv (N+256) P' B I')(h6:P'.C=P.C)(h7:P'.dead=P.dead∧P'.us=P.us)(h8:Ext w w')(h9:w.heap.size<=w1.heap.size):
 jw w N B P (.returned (.tuple #[.agg (ze P' M'),.bool bb])) w':=⟨P',M',bb,rfl,h1,by omega,by omega,h4,hz.base_ h9,h5,h6,h7,h8⟩
attribute [local go_sem↓] yg qW xd yx in
attribute [local go_sem] xe in
theorem zf4(N B:Nat)(P:Hpl)(M:Hmm)(I:List In)(w:World)(h:HO w 0 P M)(hv:Hv N P B I)(hN:N<=900000):Calls Tryz.prog 58 #[.agg (ze P M)] w (jw w N B P):=by
 go_enter Tryz.func58,Tryz.ntmps58;go_upto_region 1 with fail;refine za0 (fun W k1 k2 hE0=> ?_);obtain⟨b1,hb1⟩: ∃b,w.heap.size=b:=⟨_,rfl⟩;rw[hb1]at k1 k2|-;have Hb1:=Lib.hid hb1;clear hb1;have hlc:=zj k1 (za P M);have hr:=zdd N B 0 P M I W (h.ext hE0) hv hN (by omega);go_wp2_with fail;go_at_call 81;refine hr.mono ?_;rintro e w1 ⟨P',M',bb,rfl,hO',hgw,hgf,hap,hbz,hv',hcf,hde,hE1⟩;clear hlc hr;replace k2:=k2.ext hE1;have hst:=zO k2 rfl (za P' M') (zg P' M');have hsz:=za P' M';have hb1:=Hb1.out;have hsz0:=hE0.size_le;go_wp2_with fail;have e2:=zD w1 (b1+1) (ze P' M');have k2n:Blk (w1.setRow (b1+1) (ze P' M')) (b1+1) 38 (ze P' M'):=setRow_heap w1 (b1+1) _ (ze P' M') 38 (0,0) k2;exact zm9 rfl rfl rfl k2n (za _ _) (zde (hO'.bx k2 e2) hgw hgf hap (hbz.hp k2 e2) hv' hcf hde (y7 (hE0.trans hE1) (by omega) _) hsz0)
attribute [local go_sem↓] yg qW xd yx in
attribute [local go_sem] xe in
theorem zpn(N B n:Nat)(P:Hpl)(M:Hmm)(I:List In)(w:World)(h:HO w 0 P M)(hv:Hv N P B I)(hN:N<=900000)(hn:n<=1000):Calls Tryz.prog 75 #[.agg (ze P M),.int .i64 n] w (jw w N B P):=by
 go_enter Tryz.func75,Tryz.ntmps75;go_upto_region 1 with fail;refine za0 (fun W k1 k4 hE0=> ?_);obtain⟨b1,hb1⟩: ∃b,w.heap.size=b:=⟨_,rfl⟩;rw[hb1]at k1 k4|-;have Hb1:=Lib.hid hb1;clear hb1;have hlc:=zj k1 (za P M);have hr:=zdd N B n P M I W (h.ext hE0) hv hN hn;go_wp2_with fail;go_at_call 81;refine hr.mono ?_;rintro e w1 ⟨P',M',bb,rfl,hO',hgw,hgf,hap,hbz,hv',hcf,hde,hE1⟩;clear hlc hr;replace k4:=k4.ext hE1;have hst:=fun zs hz=>zT w1 zs (ze P' M') hz (za P' M') (zg P' M')
 have hsz:=za P' M';go_upto_region 2 with fail;clear hst;refine yN (fun W2 k6 hE2=> ?_);have hlt6:=k4.lt;obtain⟨b6,hb6⟩: ∃b,w1.heap.size=b:=⟨_,rfl⟩;rw[hb6]at k6 hlt6|-;clear hb6;replace k4:=k4.ext hE2;replace hO':=hO'.ext hE2;have hE:=(hE0.trans hE1).trans hE2;have hsz0:=hE0.size_le;have hb1:=Hb1.out;obtain⟨I',hvI⟩:=hv';have k6d:=k6.drew
 have hld: ∀w',(∀b f,b∉ [b1+1] ->(W2.drew.cell? ⟨b,f,none⟩).isSome=true->w'.cell? ⟨b,f,none⟩=W2.drew.cell? ⟨b,f,none⟩) ->(xc ⟨b6,0,none⟩ 22).run Tryz.prog w'= .ok (ze P' M') w':=fun w' hc=>qt (za _ _) fun j v hv=>by
  have h1:=k6d.cell j;rw[hc b6 j (by simp;omega) (by rw[h1,hv];rfl),h1,hv]
 refine vu [b1+1] [(true,0),(true,1),(true,2),(false,3),(true,4),(false,5),(true,6)] Tryz.mixed (by kernel_rfl) (by simp only[pick,List.filterMap_cons,List.filterMap_nil,List.getElem?_toArray,List.getElem?_cons_succ,List.getElem?_cons_zero,Option.map_some];rfl) ?_;intro hx hy;refine xA hx (v:= ?_) (by rfl) (fun w' hc=> ?_) ?_;rotate_left
 focus
  have hcl:=hld w' hc;go_simp;exact rfl
 simp only[Act.put,List.setIfInBounds_toArray,List.set_cons_zero,List.set_cons_succ];refine xA hx (v:= ?_) (by rfl) (fun w' hc=> ?_) ?_;rotate_left
 focus
  have hcl:=hld w' hc;go_simp;exact rfl
 simp only[Act.put,List.setIfInBounds_toArray,List.set_cons_zero,List.set_cons_succ];refine xA hx (v:= ?_) (by rfl) (fun w' hc=> ?_) ?_;rotate_left
 focus
  go_simp;exact rfl
 simp only[Act.put,List.setIfInBounds_toArray,List.set_cons_zero,List.set_cons_succ];refine jY (by rfl) (fun K hK=> ?_);go_simp;go_at_call 90;refine(zdc P' M' n W2.drew (hO'.ext ((Ext.refl W2).drew)) hvI.gd hn).mono ?_;rintro e w3 ⟨⟨z,rfl⟩,hE3⟩;refine hK _ _ (hE3.but _) ?_;clear hK;intro hr;replace hx:=hx.trans hr;clear hr;simp only[Act.put,List.setIfInBounds_toArray,List.set_cons_zero,List.set_cons_succ];refine xA hx (v:= ?_) (by rfl) (fun w' hc=> ?_) ?_;rotate_left
 focus
  go_simp;exact rfl
 simp only[Act.put,List.setIfInBounds_toArray,List.set_cons_zero,List.set_cons_succ];refine vI rfl (by rfl) (fun K hK=> ?_);have k4e:=k4.drew.ext hE3;have hst:=zO k4e rfl (za P' M') (zg P' M');go_simp;refine hK _ ?_ ?_;focus exact zD w3 (b1+1) (ze P' M')
 clear hK;intro hr;replace hx:=hx.trans hr;clear hr;refine xA hx (v:= ?_) (by rfl) (fun w' hc=> ?_) ?_;rotate_left
 focus
  go_simp;exact rfl
 simp only[Act.put,List.setIfInBounds_toArray,List.set_cons_zero,List.set_cons_succ];refine zH ?_;go_wp2_with fail;have e2:=zD w3 (b1+1) (ze P' M');have k4n:Blk (w3.setRow (b1+1) (ze P' M')) (b1+1) 38 (ze P' M'):=setRow_heap w3 (b1+1) _ (ze P' M') 38 (0,0) k4e;have hO2:=(hO'.ext ((Ext.refl W2).drew)).ext hE3;exact zpm rfl rfl rfl k4n (za _ _) (zde (hO2.bx k4e e2) hgw hgf hap ((((hbz.ext hE2).ext ((Ext.refl W2).drew)).ext hE3).hp k4e e2) ⟨I',hvI⟩ hcf hde (y7 (hE.drew.trans hE3) (by omega) _) hsz0)
structure HpE(w w':World)(N B:Nat)(P P':Hpl)(M':Hmm):Prop where
 ho:HO w' 0 P' M'
 gw:w.heap.size<=M'.gW
 gf:w.heap.size<=M'.gF
 ap:Ap P' M'
 bz:BO w' w.heap.size M'.A M'.c M'.vs P'.Q
 hv: ∃I',Hv N P' B I'
 cf:P'.C=P.C
 us:P'.us=P.us
 ex:Ext w w'
def zpo(w:World)(N B:Nat)(P:Hpl)(r:Ending)(w':World):Prop:= ∃(P':Hpl) (M':Hmm) (bb:Bool),r= .returned (.tuple #[.agg (ze P' M'),.bool bb,.int .i64 0])∧HpE w w' (N+256) B P P' M'∧P'.dead=P.dead
attribute [local go_sem↓] yg yx in
theorem zna{Q:Ending->World->Prop}{a:Act}{W:World}{g2:Nat}{xs:Array Value}{t3 t4:Value}(hd:a.defers= [])(h2:a.tmps[2]?.getD undef= .pointer (some ⟨g2,0,none⟩))(h3:a.tmps[3]?.getD undef=t3)(h4:a.tmps[4]?.getD undef=t4)
 (k2:Blk W g2 38 xs) (h:xs.size=22) (hQ:Q (.returned (.tuple #[.agg xs,t3,t4])) W):bodyPost Tryz.prog Tryz.f33 Q Exit.ret a W:=by
 have hl:=zj k2 h;exact bodyPost_ret (v:= .tuple #[.agg xs,t3,t4]) (by simp[results,Tryz.results33,h2,h3,h4,go_sem,hl]) hd hQ
attribute [local go_sem↓] yg qW xd yx in
attribute [local go_sem] xe in
theorem zf5(N B:Nat)(P:Hpl)(M:Hmm)(I:List In)(w:World)(h:HO w 0 P M)(hv:Hv N P B I)(hN:N<=900000)(hd:P.dead=false):Calls Tryz.prog 33 #[.agg (ze P M)] w (zpo w N B P):=by
 go_enter Tryz.func33,Tryz.ntmps33;go_upto_region 1 with fail;refine za0 (fun W k1 k2 hE0=> ?_);obtain⟨b1,hb1⟩: ∃b,w.heap.size=b:=⟨_,rfl⟩;rw[hb1]at k1 k2|-;have Hb1:=Lib.hid hb1;clear hb1;have r21:W.cell? ⟨b1,21,none⟩=some (.bool false):=by have:=k1.cell 21;rw[this,<-hd];rfl
 have r14:W.cell? ⟨b1,14,none⟩=some (.int .i64 P.k.co):=k1.cell 14;have l1:=k1.lt;have f1:=k1.froz;go_upto_region 4 with fail;clear r21 r14 l1 f1;have k1a:Blk (W.setCell ⟨b1,14,none⟩ (.int .i64 (wrap64 (P.k.co+1)))) b1 38 (ze {P with k:={P.k with co:=wrap64 (P.k.co+1)}} M):=k1.set_ 14 _;have e1:But [b1] W (W.setCell ⟨b1,14,none⟩ (.int .i64 (wrap64 (P.k.co+1)))):=But.setCell (But.refl _ _) (by simp) _;have hb1:=Hb1.out;have hEa:=But.ext hE0 e1 (fun q hq=>by have:=List.mem_singleton.1 hq;omega);replace k2:=k2.but e1 (by simp);obtain⟨P1,hP1⟩: ∃P1:Hpl,{P with k:={P.k with co:=wrap64 (P.k.co+1)}}=P1:=⟨_,rfl⟩
 have hO1:HO (W.setCell ⟨b1,14,none⟩ (.int .i64 (wrap64 (P.k.co+1)))) 0 P1 M:=by
  have:=h.ext hEa;rw[<-hP1];exact⟨this.ru,this.sp,this.bo,this.so,this.hp,this.ro⟩
 have hv1:Hv N P1 B I:=by
  rw[<-hP1];exact⟨hv.vh,hv.wf,hv.ok,hv.ql,hv.bt,hv.s0,hv.ct⟩
 have hc1:P1.C=P.C∧P1.dead=P.dead∧P1.us=P.us:=by rw[<-hP1];exact⟨rfl,rfl,rfl⟩
 rw[hP1]at k1a;clear hP1 e1;generalize W.setCell ⟨b1,14,none⟩ (.int .i64 (wrap64 (P.k.co+1)))=W1 at*;have hlc:=zj k1a (za P1 M);have hr:=zf4 N B P1 M I W1 hO1 hv1 hN;go_wp2_with fail;go_at_call 58;refine hr.mono ?_;rintro e w1 ⟨P',M',bb,rfl,hO',hgw,hgf,hap,hbz,hv',hcf,hde,hE1⟩;clear hlc hr;replace k2:=k2.ext hE1;have hst:=fun zs hz=>zT w1 zs (ze P' M') hz (za P' M') (zg P' M')
 have hsz:=za P' M';go_upto_region 5 with fail;clear hst;refine yN (fun W2 k5 hE2=> ?_);have hlt5:=k2.lt;obtain⟨b5,hb5⟩: ∃b,w1.heap.size=b:=⟨_,rfl⟩;rw[hb5]at k5 hlt5|-;clear hb5;replace k2:=k2.ext hE2;replace hO':=hO'.ext hE2;have hE:=(hEa.trans hE1).trans hE2;have hsz0:=hEa.size_le;have hlc:=zj k5 (za P' M');have hst:=zO k2 rfl (za P' M') (zg P' M');go_wp2_with fail;have e2:=zD W2 (b1+1) (ze P' M');have k2n:Blk (W2.setRow (b1+1) (ze P' M')) (b1+1) 38 (ze P' M'):=setRow_heap W2 (b1+1) _ (ze P' M') 38 (0,0) k2;exact zna rfl rfl rfl rfl k2n (za _ _) ⟨P',M',bb,rfl,⟨hO'.bx k2 e2,by omega,by omega,hap,((hbz.ext hE2).hp k2 e2).base_ (by omega),hv',hcf.trans hc1.1,hde.2.trans hc1.2.2,y7 hE (by omega) _⟩,hde.1.trans hc1.2.1⟩
section
variable{S:Sp} {B:Nat} {R:List In} {T0:In} {sets:List St} {u:List Bool} {r:List Int} {fs:List Fr} {c:List Nat} {ws:List Int} {rr d:Nat}
theorem znb(h:Vh S B (T0::R) sets u r)(hr:rr<=15)(hd32:d<=32)(hcl:yJ (T0.wd+(1+rr+d)) B=c.length)(hcd: ∃e,c=T0.x.c++e)(hch:Chs ⟨S.sh,ws,fs⟩ (⟨T0.x.q,T0.x.b,c⟩::R.map (·.x)))
 (hm:MkI ws ⟨S.sh,S.ws,fs⟩ c B T0.wd (hd rr d) (rr+d+1)):Vh ⟨S.sh,ws,fs⟩ B (⟨⟨T0.x.q,T0.x.b,c⟩,T0.wd+(1+rr+d),T0.obs++ [⟨T0.wd,rr,d⟩]⟩::R) sets u r:=by
 have hl0:=h.hok.lay;have hT:=hl0.tile T0 List.mem_cons_self;have hB0:0<B:=by have:=hl0.B8;omega
 obtain⟨T,hTe⟩: ∃T:In,T=⟨⟨T0.x.q,T0.x.b,c⟩,T0.wd+(1+rr+d),T0.obs++ [⟨T0.wd,rr,d⟩]⟩:=⟨_,rfl⟩;rw[<-hTe];have hTc:T.x.c=c:=by rw[hTe]
 have hTst:T.x.st=T0.x.st:=by rw[hTe];rfl
 have hTo:T.obs=T0.obs++ [⟨T0.wd,rr,d⟩]:=by rw[hTe]
 have hTw:T.wd=T0.wd+(1+rr+d):=by rw[hTe]
 have hlay:Lay ⟨S.sh,ws,fs⟩ B (T::R):=by
  refine⟨hl0.pow,?_,?_,?_⟩
  ·rw[List.map_cons,hTe];exact hch
  ·intro i hi
   rcases List.mem_cons.1 hi with rfl|hi
   ·rw[hTw,hTc];exact hcl
   ·exact hl0.fit i (List.mem_cons_of_mem _ hi)
  ·intro i hi
   rcases List.mem_cons.1 hi with rfl|hi
   ·rw[hTw,hTo];exact hT.snoc rr d
   ·exact hl0.tile i (List.mem_cons_of_mem _ hi)
 have hnb:(⟨T0.wd,rr,d⟩:Ob)∈T.obs:=by rw[hTo];exact List.mem_append_right _ (List.mem_singleton.2 rfl)
 obtain⟨nw,hnw⟩: ∃nw,nw=zZ B c ⟨T0.wd,rr,d⟩:=⟨_,rfl⟩;have hnf: ∀k,k<1+rr+d->nw.f k=zy c B (T0.wd+k):=fun k hk=>by rw[hnw];exact yn (b:=⟨T0.wd,rr,d⟩) hk
 have hnwm:nw∈aos B (T::R):=zK.2 ⟨T,List.mem_cons_self,_,hnb,by rw[hTc,hnw]⟩;obtain⟨e,rfl⟩:=hcd;have happ: ∀b∈T0.obs,zZ B (T0.x.c++e) b=zZ B T0.x.c b:=fun b hb=>v7 hB0 (hl0.bd List.mem_cons_self hb)
 have cases: ∀i∈T::R,∀b∈i.obs,(∃i0∈T0::R,b∈i0.obs∧zZ B i.x.c b=zZ B i0.x.c b∧i0.x.st=i.x.st)∨(i=T∧b=⟨T0.wd,rr,d⟩):=by
  intro i hi b hb;rcases List.mem_cons.1 hi with rfl|hi
  ·rw[hTo]at hb
   rcases List.mem_append.1 hb with hb|hb
   ·exact .inl ⟨T0,List.mem_cons_self,hb,by rw[hTc];exact happ b hb,hTst.symm⟩
   ·exact .inr ⟨rfl,List.mem_singleton.1 hb⟩
  ·exact .inl ⟨i,List.mem_cons_of_mem _ hi,hb,rfl,rfl⟩
 have old: ∀o∈aos B (T0::R),o∈aos B (T::R):=by
  intro o ho;obtain⟨i,hi,b,hb,rfl⟩:=zK.1 ho;rcases List.mem_cons.1 hi with rfl|hi
  ·exact zK.2 ⟨T,List.mem_cons_self,b,by rw[hTo];exact List.mem_append_left _ hb,by rw[hTc];exact happ b hb⟩
  ·exact zK.2 ⟨i,List.mem_cons_of_mem _ hi,b,hb,rfl⟩
 have away: ∀o∈aos B (T0::R),∀k,k<o.n-> ∀j,j<1+rr+d->o.f k≠nw.f j:=by
  intro o ho k hk j hj he;obtain⟨i,hi,b,hb,rfl⟩:=zK.1 ho;have hk':k<b.n:=hk;rcases List.mem_cons.1 hi with rfl|hi
  ·have hbT:b∈T.obs:=by rw[hTo];exact List.mem_append_left _ hb
   have h1:=yS.mem hT b hb;have i1:=hlay.in_ List.mem_cons_self hbT hk';have i2:=hlay.in_ List.mem_cons_self hnb (k:=j) hj;rw[<-happ b hb,yn hk',hnf j hj,<-hTc]at he;obtain⟨_,h2⟩:=qx hlay.ch hB0 (hlay.mem List.mem_cons_self) (hlay.mem List.mem_cons_self) i1 i2 he;simp only at h2;omega
  ·have hq:=hlay.head_ne hi
   refine hlay.diff (List.mem_cons_of_mem _ hi) List.mem_cons_self (fun e=>hq e.symm) hb hnb hk' (l:=j) hj ?_;rw[hTc,<-hnw];exact he
 have wold: ∀o∈aos B (T0::R),∀k,k<o.n->(⟨S.sh,ws,fs⟩:Sp).w (o.f k)=S.w (o.f k):=by
  intro o ho k hk;unfold Sp.w;rw[List.getD_eq_getElem?_getD,List.getD_eq_getElem?_getD]
  have:=hm.ho (o.f k) (fun j hj=>by
   rw[<-hnf j (by omega)];exact away o ho k hk j (by omega))
  show(ws[o.f k]?).getD 0=_;rw[this]
 have wnew: ∀j,1<=j->j<1+rr+d->(⟨S.sh,ws,fs⟩:Sp).w (nw.f j)=0:=by
  intro j h1 hj;unfold Sp.w;rw[List.getD_eq_getElem?_getD,hnf j hj];show(ws[_]?).getD 0=_;rw[hm.hz j h1 (by omega)];rfl
 have part: ∀o∈aos B (T::R),o∈aos B (T0::R)∨o=nw:=by
  intro o ho;obtain⟨i,hi,b,hb,rfl⟩:=zK.1 ho;rcases cases i hi b hb with⟨i0,hi0,hb0,e0,_⟩|⟨rfl,rfl⟩
  ·exact .inl (zK.2 ⟨i0,hi0,b,hb0,e0.symm⟩)
  ·exact .inr (by rw[hTc,hnw])
 have hnr:nw.r=rr∧nw.d=d:=by rw[hnw];exact⟨rfl,rfl⟩
 refine⟨⟨hlay,?_,?_⟩,⟨h.rt.1,h.rt.2.1,fun k b v hb hv=>⟨(h.rt.2.2 k b v hb hv).1,fun ht=> ?_⟩⟩,h.bd,fun x hx t ht=> ?_,?_⟩
 ·intro o ho
  rcases part o ho with ho|rfl
  ·obtain⟨h1,h2,h3⟩:=h.hok.head o ho
   exact⟨h1,h2,by rw[wold o ho 0 (by unfold AO.n;omega)];exact h3⟩
  ·refine⟨by omega,by omega,?_⟩
   rw[hnr.1,hnr.2,hnf 0 (by omega)];unfold Sp.w;rw[List.getD_eq_getElem?_getD,Nat.add_zero];show(ws[_]?).getD 0=_;rw[hm.h0];rfl
 ·intro o ho e' he'
  rcases part o ho with ho|rfl
  ·rw[wold o ho _ (by unfold AO.n;omega)]
   exact(h.hok.refs o ho e' he').mono old
  ·rw[wnew (1+e') (by omega) (by omega)]
   exact .inl rfl
 ·obtain⟨o,ho,e'⟩:=(h.rt.2.2 k b v hb hv).2 ht
  exact⟨o,old o ho,e'⟩
 ·obtain⟨o,ho,e'⟩:=h.ss x hx t ht
  exact⟨o,old o ho,e'⟩
 ·intro i hi b hb j hj b' hb' e' he' hv hst
  rcases cases i hi b hb with⟨i0,hi0,hb0,e0,s0⟩|⟨rfl,rfl⟩
  ·have ho:zZ B i0.x.c b∈aos B (T0::R):=zK.2 ⟨i0,hi0,b,hb0,rfl⟩
   have hk:1+e'<b.n:=by unfold Ob.n;omega
   rw[e0,wold _ ho (1+e') hk]at hv;rcases cases j hj b' hb' with⟨j0,hj0,hbj0,ej,sj⟩|⟨rfl,rfl⟩
   ·rw[ej]at hv
    rw[e0,ej];exact h.cs i0 hi0 b hb0 j0 hj0 b' hbj0 e' he' hv (by omega)
   ·exfalso
    rw[hTc,<-hnw]at hv;rcases h.hok.refs _ ho e' he' with hz|⟨o',ho',hz⟩
    ·rw[hz]at hv;omega
    ·rw[hz]at hv
     exact away o' ho' 0 (by unfold AO.n;omega) 0 (by omega) (by omega)
  ·exfalso
   rw[hTc,<-hnw,wnew (1+e') (by omega) (by have:e'<rr:=he';omega)]at hv;omega
end
def zhm(P:Hpl)(k:Int)(i:Inc):Prop:= ∃q0,P.Q[0]? =some q0∧(k=3∧i=⟨0,0,0,0,0⟩∨k=1∧q0.getLast? =some i∨k=2∧i=⟨P.sq,0,-1,-1,0⟩)
theorem Bt.perm{Q:List (List Inc)}{I I':List In}{sq:Int}(h:Bt Q I sq)(hp:I.Perm I'):Bt Q I' sq:=
 ⟨h.qs.trans (hp.map _),h.qb,h.qa,fun i hi=>h.nw i (hp.mem_iff.2 hi),fun i hi=>h.sq i (hp.mem_iff.2 hi)⟩
theorem zhn{α:Type}{q:List α}{i:α}(h:q.getLast? =some i): ∃m:Nat,q[m]? =some i:=by
 rw[List.getLast?_eq_getElem?]at h;exact⟨_,h⟩
def znc(P:Hpl)(k:Int)(T0:In)(R:List In):Prop:=
 ∃q0,P.Q[0]? =some q0∧((k=1∧Bt P.Q (T0::R) P.sq∧∃m:Nat,q0[m]? =some T0.inc∧∀y∈q0.take m,y.q≠T0.x.q)∨(k=2∧Bt P.Q R P.sq∧T0=⟨⟨P.sq,0,[]⟩,0,[]⟩∧∀y,q0.getLast? =some y->y.q<P.sq))
theorem Hv.plan{N B:Nat}{P:Hpl}{I:List In}{k:Int}{i:Inc}(hv:Hv N P B I)(hN:N<=1000000)(hp:zhm P k i)(hk:k≠3): ∃(T0:In) (R:List In),i=T0.inc∧T0.x.b=0∧Vh P.S B (T0::R) P.ss P.us P.rs∧znc P k T0 R:=by
 obtain⟨q0,hq0,h|h|h⟩:=hp
 ·exact absurd h.1 hk
 ·obtain⟨hk1,hl⟩:=h
  obtain⟨m,hm⟩:=zhn hl;have hi:=List.mem_of_getElem? hm;obtain⟨T0,hT,e⟩:=hv.bt.mem (List.mem_of_getElem? hq0) hi;obtain⟨a,b,hab⟩:=List.append_of_mem hT;have hperm:I.Perm (T0::(a++b)):=by rw[hab];exact List.perm_middle
  have hb:=hv.bt.qb 0 q0 hq0 i hi;have hnd:=hv.bt.nd hv.vh.hok.lay;have hq0n:(q0.map (·.q)).Nodup:=(List.Sublist.map _ (List.sublist_flatten_of_mem (List.mem_of_getElem? hq0))).nodup hnd;have hne:=zd4 hq0n hm;subst e;exact⟨T0,a++b,rfl,hb,hv.vh.perm hperm,q0,hq0,.inl ⟨hk1,hv.bt.perm hperm,m,hm,hne⟩⟩
 ·obtain⟨hk2,rfl⟩:=h
  refine⟨⟨⟨P.sq,0,[]⟩,0,[]⟩,I,rfl,rfl,hv.vh.add0 (by have:=hv.s0;omega) (by omega) (fun i hi=> ?_),q0,hq0,.inr ⟨hk2,hv.bt,rfl,fun y hy=> ?_⟩⟩
  ·have:=hv.bt.sq i hi
   omega
  ·obtain⟨j,hj,e⟩:=hv.bt.mem (List.mem_of_getElem? hq0) (List.mem_of_getLast? hy)
   have:=hv.bt.sq j hj;rw[e];exact this
def zqk(P:Hpl)(k:Int)(T0 T:In)(Q':List (List Inc))(sq':Int):Prop:=
 ∃q0,P.Q[0]? =some q0∧((k=1∧sq'=P.sq∧∃m:Nat,q0[m]? =some T0.inc∧Q'=P.Q.set 0 (q0.set m T.inc))∨(k=2∧sq'=P.sq+1∧Q'=P.Q.set 0 (q0++ [T.inc])))
theorem Hv.alloc{N B:Nat}{P P':Hpl}{I R:List In}{k:Int}{T0 T:In}(hv:Hv N P B I)(hk:znc P k T0 R)(hb0:T0.x.b=0)(hl:((T0::R).map (·.x.q)).Nodup)(hTq:T.x.q=T0.x.q)(hTb:T.x.b=T0.x.b)(hTw:1<=T.wd)(hvh:Vh P'.S B (T::R) P'.ss P'.us P'.rs)(hss:P'.ss=P.ss)(hC:P'.C=P.C)
 (hk1:P'.k.cp=P.k.cp∧P'.k.cd=P.k.cd) (hQ:zqk P k T0 T P'.Q P'.sq):Hv (N+1) P' B (T::R):=by
 have hs0:=hv.s0;have hct:=hv.ct;obtain⟨q0,hq0,hk⟩:=hk;obtain⟨q1,hq1,hQ⟩:=hQ;rw[hq0]at hq1;injection hq1 with hq1;subst hq1;rcases hk with⟨k1,hbt,m,hm,hne⟩|⟨k2,hbt,rfl,_⟩
 ·rcases hQ with⟨_,hsq,m',hm',hQ⟩|⟨k2,_⟩
  ·refine⟨hvh,hss▸hv.wf,hC▸hv.ok,?_,?_,by omega,by omega⟩
   ·rw[hQ,List.length_set,hv.ql,hC]
   ·rw[hQ,hsq]
    exact hbt.rep hl hq0 hm' rfl hTq hTb hTw
  ·omega
 ·rcases hQ with⟨k1,_⟩|⟨_,hsq,hQ⟩
  ·omega
  ·refine⟨hvh,hss▸hv.wf,hC▸hv.ok,?_,?_,by omega,by omega⟩
   ·rw[hQ,List.length_set,hv.ql,hC]
   ·rw[hQ,hsq]
    exact hbt.app hq0 (by rw[hTb];rfl) hTq hTw
end Go.Proofs.YtopcdfbplknmlaaGreat
