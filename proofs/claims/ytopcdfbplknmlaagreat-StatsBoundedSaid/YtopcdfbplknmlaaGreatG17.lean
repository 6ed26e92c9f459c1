/- Part of the proof of the claim: walks and plain laws; each theorem states its own conditions. -/
import Derived.Test.YtopcdfbplknmlaaGreatL
import Derived.Test.YtopcdfbplknmlaaGreatG16
import Derived.Test.YtopcdfbplknmlaaGreatG6
import Derived.Test.YtopcdfbplknmlaaGreatG10
set_option linter.all false
set_option maxHeartbeats 8000000
set_option maxRecDepth 100000
namespace Go.Proofs.YtopcdfbplknmlaaGreat
open Go.RowKit Go.Draw
def znd(w:World)(N B:Nat)(P:Hpl)(r:Ending)(w':World):Prop:= ∃(P':Hpl) (M':Hmm) (a e:Int) (I':List In),r= .returned (.tuple #[.agg (ze P' M'),.int .i64 a,.int .i64 e])∧HpE w w' (N+257) B P P' M'∧(e=18∧P'.dead=true∨e=0∧P'.dead=false∧Hv (N+257) P' B I'∧∃o∈aos B I',a=(o.f 0:Int))
attribute [local go_sem↓] yg yx in
theorem zdf{Q:Ending->World->Prop}{a:Act}{W:World}{g6:Nat}{xs:Array Value}{t7 t8:Value}(hd:a.defers= [])(h6:a.tmps[6]?.getD undef= .pointer (some ⟨g6,0,none⟩))(h7:a.tmps[7]?.getD undef=t7)(h8:a.tmps[8]?.getD undef=t8)
 (k6:Blk W g6 38 xs) (h:xs.size=22) (hQ:Q (.returned (.tuple #[.agg xs,t7,t8])) W):bodyPost Tryz.prog Tryz.f56 Q Exit.ret a W:=by
 have hl:=zj k6 h;exact bodyPost_ret (v:= .tuple #[.agg xs,t7,t8]) (by simp[results,Tryz.results56,h6,h7,h8,go_sem,hl]) hd hQ
theorem zi7(P:Hpl)(M:Hmm)(n:Nat)(W:World)(hO:HO W 0 P M)(hg:P.Gd)(hn:n<=1000):
 Calls Tryz.prog 73 #[.agg #[.string P.C.s,.slice M.Ac P.C.l.length M.cc,.int .i64 P.C.f],.agg #[.int .i64 P.S.sh,.slice (some ⟨M.gW,0,none⟩) P.S.ws.length M.cW,.slice (some ⟨M.gF,0,none⟩) P.S.fs.length M.cF],.slice M.A P.Q.length M.c,.int .i64 P.sq,.int .i64 n] W
  fun r w'=> ∃k i,r= .returned (.tuple #[.int .i64 k,.agg i.a])∧zhm P k i∧Ext W w':=by
 obtain⟨q0,hq0⟩: ∃q0,P.Q[0]? =some q0:=⟨_,List.getElem?_eq_getElem (by have:=hg.ql;have:=hg.ok.good.2.1;omega)⟩;refine(zft M.Ac (some ⟨M.gW,0,none⟩) (some ⟨M.gF,0,none⟩) M.A M.cc M.cW M.cF M.c n P.sq P.C P.S M.vs P.Q q0 W (Rd.of_own hO.ru) hg.ok hO.sp.rd hg.sm.f1 hg.sm.f2 hg.sh hO.bo hq0 hg.sm.q1 hg.sm.q2 hg.iw hn).mono ?_;rintro e w1 ⟨k,i,rfl,hk,hE1⟩;exact⟨k,i,rfl,⟨q0,hq0,hk⟩,hE1⟩
structure AlI(w:World)(N B b6 b12:Nat)(P P1:Hpl)(M1:Hmm)(wx:World):Prop where
 k6:Blk wx b6 38 y0
 k12:Blk wx b12 38 (ze P1 M1)
 e:HpE w wx N B P P1 M1
 de:P1.dead=false
theorem zpp{w:World}{b:Nat}{i i':Inc}(k:Blk w b 144 i.a):Blk (w.setCells b 0 i'.a.toList) b 144 i'.a∧But [b] w (w.setCells b 0 i'.a.toList):=
 ⟨((((k.set_ 0 _).set_ 1 _).set_ 2 _).set_ 3 _).set_ 4 _,But.setCell (But.setCell (But.setCell (But.setCell (But.setCell (But.refl _ _) (by simp) _) (by simp) _) (by simp) _) (by simp) _) (by simp) _⟩
theorem HO.inc{w w':World}{base b:Nat}{P:Hpl}{M:Hmm}{xs:Array Value}(h:HO w 0 P M)(hz:BO w base M.A M.c M.vs P.Q)(hb:b<base)(k:Blk w b 144 xs)(hB:But [b] w w'):HO w' 0 P M:=
 ⟨ye h.ru k hB (by decide),⟨ye h.sp.W k hB (by decide),ye h.sp.F k hB (by decide)⟩,(hz.stepB hB hb).base_ (Nat.zero_le _),⟨ye h.so.out k hB (by decide),fun p hp=>ye (h.so.each p hp) k hB (by decide)⟩,h.hp,⟨ye h.ro.u k hB (by decide),ye h.ro.r k hB (by decide)⟩⟩
theorem HpE.inc{w w1 w2:World}{N B b base:Nat}{P P1:Hpl}{M1:Hmm}{xs:Array Value}(h:HpE w w1 N B P P1 M1)(hz:BO w1 base M1.A M1.c M1.vs P1.Q)(hbb:b<base)(k:Blk w1 b 144 xs)(he:But [b] w1 w2)(hb:w.heap.size<=b):HpE w w2 N B P P1 M1:=⟨h.ho.inc hz hbb k he,h.gw,h.gf,h.ap,(hz.stepB he hbb).base_ (by omega),h.hv,h.cf,h.us,But.ext h.ex he (fun q hq=>by have:=List.mem_singleton.1 hq;omega)⟩
theorem HpE.dead{w w':World}{N B:Nat}{P P1:Hpl}{M1:Hmm}(h:HpE w w' N B P P1 M1)(z:Bool):HpE w w' N B P {P1 with dead:=z} M1:=
 ⟨⟨h.ho.ru,h.ho.sp,h.ho.bo,h.ho.so,h.ho.hp,h.ho.ro⟩,h.gw,h.gf,h.ap,h.bz,by obtain⟨I,hI⟩:=h.hv;exact⟨I,⟨hI.vh,hI.wf,hI.ok,hI.ql,hI.bt,hI.s0,hI.ct⟩⟩,h.cf,h.us,h.ex⟩
theorem HpE.same{w w':World}{N B:Nat}{P P1:Hpl}{M1:Hmm}(h:HpE w w' N B P P1 M1)(s c:Int):HpE w w' N B P {P1 with si:=s,k:={P1.k with co:=c}} M1:=
 ⟨⟨h.ho.ru,h.ho.sp,h.ho.bo,h.ho.so,h.ho.hp,h.ho.ro⟩,h.gw,h.gf,h.ap,h.bz,by obtain⟨I,hI⟩:=h.hv;exact⟨I,⟨hI.vh,hI.wf,hI.ok,hI.ql,hI.bt,hI.s0,hI.ct⟩⟩,h.cf,h.us,h.ex⟩
theorem HpE.ext{w w1 w2:World}{N B:Nat}{P P1:Hpl}{M1:Hmm}(h:HpE w w1 N B P P1 M1)(he:Ext w1 w2):HpE w w2 N B P P1 M1:=⟨h.ho.ext he,h.gw,h.gf,h.ap,h.bz.ext he,h.hv,h.cf,h.us,h.ex.trans he⟩
theorem HpE.hp{w w1 w2:World}{N B b:Nat}{P P1:Hpl}{M1:Hmm}{xs:Array Value}(h:HpE w w1 N B P P1 M1)(k:Blk w1 b 38 xs)(he:But [b] w1 w2)(hb:w.heap.size<=b):HpE w w2 N B P P1 M1:=⟨h.ho.bx k he,h.gw,h.gf,h.ap,h.bz.hp k he,h.hv,h.cf,h.us,But.ext h.ex he (fun q hq=>by have:=List.mem_singleton.1 hq;omega)⟩
theorem HpE.wide{w w1:World}{N N' B:Nat}{P P1:Hpl}{M1:Hmm}(h:HpE w w1 N B P P1 M1)(hn:N<=N'):HpE w w1 N' B P P1 M1:=⟨h.ho,h.gw,h.gf,h.ap,h.bz,by obtain⟨I,hI⟩:=h.hv;exact⟨I,hI.wide hn⟩,h.cf,h.us,h.ex⟩
theorem AlI.ext{w w1 w2:World}{N B b6 b12:Nat}{P P1:Hpl}{M1:Hmm}(h:AlI w N B b6 b12 P P1 M1 w1)(he:Ext w1 w2):AlI w N B b6 b12 P P1 M1 w2:=⟨h.k6.ext he,h.k12.ext he,h.e.ext he,h.de⟩
theorem AlI.wide{w w1:World}{N N' B b6 b12:Nat}{P P1:Hpl}{M1:Hmm}(h:AlI w N B b6 b12 P P1 M1 w1)(hn:N<=N'):AlI w N' B b6 b12 P P1 M1 w1:=⟨h.k6,h.k12,h.e.wide hn,h.de⟩
theorem HpE.round{w w1 w2:World}{N B:Nat}{P P1 P2:Hpl}{M1 M2:Hmm}(h:HpE w w1 N B P P1 M1)(h1:HO w2 0 P2 M2)(h2:w1.heap.size<=M2.gW)(h3:w1.heap.size<=M2.gF)(h4:Ap P2 M2)(h7:BO w2 w1.heap.size M2.A M2.c M2.vs P2.Q)(h5: ∃I',Hv (N+256) P2 B I')(h6:P2.C=P1.C)(h9:P2.dead=P1.dead∧P2.us=P1.us)(h8:Ext w1 w2):HpE w w2 (N+256) B P P2 M2:=by
 have:=h.ex.size_le;exact⟨h1,by omega,by omega,h4,h7.base_ this,h5,h6.trans h.cf,h9.2.trans h.us,h.ex.trans h8⟩
theorem HO.sw{w w':World}{P:Hpl}{M:Hmm}{S':Sp}(h:HO w 0 P M)(ha:Ap P M)(hB:But [M.gW,M.gF] w w')(hS:SOw w' 0 S' M.gW M.cW M.gF M.cF):HO w' 0 {P with S:=S'} M:=
 ⟨vx h.ru h.sp hB (by decide) (by decide),hS,h.bo.sp h.sp hB,h.so.sp h.sp hB,h.hp,⟨vx h.ro.u h.sp hB (by decide) (by decide),zo h.ro.r hB fun b hb hm=>by
   rcases List.mem_cons.1 hm with rfl|hm
   ·exact ha _ hb rfl
   ·have:=List.mem_singleton.1 hm
    subst this;exact yk h.ro.r h.sp.F (by decide) hb rfl⟩⟩
structure AlX(w:World)(b6 b12:Nat)(P:Hpl)(M:Hmm)(wx:World):Prop where
 k6:Blk wx b6 38 y0
 k12:Blk wx b12 38 (ze P M)
 ho:HO wx 0 P M
 gw:w.heap.size<=M.gW
 gf:w.heap.size<=M.gF
 ap:Ap P M
 bz:BO wx w.heap.size M.A M.c M.vs P.Q
 ex:Ext w wx
section
variable{w w1 w2:World} {b6 b12:Nat} {P:Hpl} {M:Hmm}
theorem AlX.ext(h:AlX w b6 b12 P M w1)(he:Ext w1 w2):AlX w b6 b12 P M w2:=⟨h.k6.ext he,h.k12.ext he,h.ho.ext he,h.gw,h.gf,h.ap,h.bz.ext he,h.ex.trans he⟩
theorem AlX.sw{S':Sp}(h:AlX w b6 b12 P M w1)(hB:But [M.gW,M.gF] w1 w2)(hS:SOw w2 0 S' M.gW M.cW M.gF M.cF)(h1:S'.ws.length=P.S.ws.length)(h2:S'.fs.length=P.S.fs.length)(h3:S'.sh=P.S.sh):AlX w b6 b12 {P with S:=S'} M w2:=by
 have hn: ∀{b:Nat} {xs:Array Value},Blk w1 b 38 xs->b∉ [M.gW,M.gF]:=fun k hm=>by
  rcases List.mem_cons.1 hm with rfl|hm
  ·exact zN h.ho.sp.W k (by decide) rfl
  ·have:=List.mem_singleton.1 hm
   subst this;exact zN h.ho.sp.F k (by decide) rfl
 have hg: ∀q∈ [M.gW,M.gF],w.heap.size<=q:=fun q hq=>by
  rcases List.mem_cons.1 hq with rfl|hq
  ·exact h.gw
  ·have:=List.mem_singleton.1 hq
   subst this;exact h.gf
 exact⟨h.k6.but hB (hn h.k6),by rw[zi6 _ _ _ h1 h2 h3];exact h.k12.but hB (hn h.k12),h.ho.sw h.ap hB hS,h.gw,h.gf,h.ap,h.bz.sp h.ho.sp hB,But.ext h.ex hB hg⟩
theorem AlX.belts{A2:Option Addr}{c2:Nat}{vs2:List Value}{Q':List (List Inc)}{sq':Int}(h:AlX w b6 b12 P M w1)(hB:But [b12] w1 w2)(hk:Blk w2 b12 38 (ze {P with Q:=Q',sq:=sq'} {M with A:=A2,c:=c2,vs:=vs2}))(hb:BO w1 w.heap.size A2 c2 vs2 Q')(h1:w.heap.size<=b12)(h2:b6≠b12):AlX w b6 b12 {P with Q:=Q',sq:=sq'} {M with A:=A2,c:=c2,vs:=vs2} w2:=by
 have ho:=h.ho.bx h.k12 hB;have hb':=hb.hp h.k12 hB;exact⟨h.k6.but hB (by simp;omega),hk,⟨ho.ru,ho.sp,hb'.base_ (Nat.zero_le _),ho.so,ho.hp,ho.ro⟩,h.gw,h.gf,h.ap,hb',But.ext h.ex hB (fun q hq=>by have:=List.mem_singleton.1 hq;omega)⟩
end
theorem AlI.toX{w w1:World}{N B b6 b12:Nat}{P P1:Hpl}{M1:Hmm}(h:AlI w N B b6 b12 P P1 M1 w1):AlX w b6 b12 P1 M1 w1:=⟨h.k6,h.k12,h.e.ho,h.e.gw,h.e.gf,h.e.ap,h.e.bz,h.e.ex⟩
theorem zf6{w W:World}{N N' B b6 b12:Nat}{P P5:Hpl}{M5:Hmm}{a:Act}{xs:Array Value}(h:HpE w W N B P P5 M5)(k6:Blk W b6 38 xs)(hN:N<=N'+257)(hb:w.heap.size<=b6)(hde:P5.dead=true)(hd:a.defers= [])(h6:a.tmps[6]?.getD undef= .pointer (some ⟨b6,0,none⟩))(h7:a.tmps[7]?.getD undef= .int .i64 0)(h8:a.tmps[8]?.getD undef= .int .i64 18):
 bodyPost Tryz.prog Tryz.f56 (znd w N' B P) Exit.ret a (W.setRow b6 (ze P5 M5)):=by
 have e6:=zD W b6 (ze P5 M5);have k6a:Blk (W.setRow b6 (ze P5 M5)) b6 38 (ze P5 M5):=setRow_heap W b6 _ (ze P5 M5) 38 (0,0) k6;exact zdf hd h6 h7 h8 k6a (za _ _) ⟨P5,M5,0,18,[],rfl,(h.hp k6 e6 hb).wide hN,.inl ⟨rfl,hde⟩⟩
def zq5(w:World)(gW cW gF cF:Nat)(S:Sp)(L:List Ch)(x:Ch)(wd n B:Nat)(r:Ending)(w':World):Prop:=
 ∃(i:Inc) (ad e:Int),r= .returned (.tuple #[.agg i.a,.int .i64 ad,.int .i64 e])∧But [gF] w w'∧zc0 w' 0 gW cW gF cF S L x wd n B i.q i.b i.f i.l i.w ad e
theorem zq6(gW cW gF cF:Nat)(S:Sp)(T0:In)(R:List In)(n B:Nat)(w:World)(h:SOw w 0 S gW cW gF cF)(hl:Lay S B (T0::R))(h1:1<=n)(h2:n<=48):
 Calls Tryz.prog 76 #[spV S (some ⟨gW,0,none⟩) cW (some ⟨gF,0,none⟩) cF,.agg T0.inc.a,.int .i64 n] w (zq5 w gW cW gF cF S (R.map (·.x)) T0.x T0.wd n B):=by
 have hc:Chs S (T0.x::R.map (·.x)):=hl.ch;refine(zg4 gW cW gF cF 0 S (R.map (·.x)) T0.x T0.wd n B n w h hc hl.pow (hl.fit T0 List.mem_cons_self) h1 h2 (Nat.zero_le _) rfl).mono ?_;rintro r w' ⟨q,b,f,l,k,ad,e,hr,hB,hD⟩;exact⟨⟨q,b,f,l,k⟩,ad,e,hr,hB,hD⟩
attribute [local go_sem↓] yg zhk qW xd yx in
attribute [local go_sem] xe in
theorem zkm(N B r d:Nat)(P:Hpl)(M:Hmm)(I:List In)(w:World)(h:HO w 0 P M)(hv:Hv N P B I)(hN:N<=800000)(hdead:P.dead=false)(hr:r<=15)(hd32:d<=32):Calls Tryz.prog 56 #[.agg (ze P M),.int .i64 r,.int .i64 d] w (znd w N B P):=by
 have Hv0:=Lib.hid hv;have Hsm:=Lib.hid hv.gd.sm;clear hv;go_enter Tryz.func56,Tryz.ntmps56;go_upto_region 1 with fail;refine za0 (fun W k3 k6 hE0=> ?_);obtain⟨b3,hb3⟩: ∃b,w.heap.size=b:=⟨_,rfl⟩;rw[hb3]at k3 k6|-;have Hb3:=Lib.hid hb3;clear hb3;have r21:W.cell? ⟨b3,21,none⟩=some (.bool false):=by have:=k3.cell 21;rw[this,<-hdead];rfl
 have l3:=k3.lt;go_wp2_with fail;go_at_call 54;refine(zew r d W hr hd32).mono ?_;rintro e w1 ⟨⟨z,rfl⟩,rfl⟩;clear r21 l3;have hlc:=zj k3 (za P M);obtain⟨n,hn⟩: ∃n,1+r+d=n:=⟨_,rfl⟩;have hnI:(1:Int)+r+d=n:=by omega
 have hn48:n<=48:=by omega
 have hn1:1<=n:=by omega
 go_wp2_with fail;go_at_call 39;refine(qo P M W (h.ext hE0) Hsm.out).mono ?_;rintro e w2 ⟨M1,rfl,hO,hE1,hap⟩;clear hlc;have hszW:=hE0.size_le;replace k6:=k6.ext hE1;have hE:=hE0.trans hE1;have hst:=fun zs hz=>zT w2 zs (ze P M1) hz (za P M1) (zg P M1)
 have hsz:=za P M1;go_upto_region 8 with fail;clear hst hsz;refine yN (fun W3 k12 hE2=> ?_);have hlt12:=k6.lt;obtain⟨b12,hb12⟩: ∃b,w2.heap.size=b:=⟨_,rfl⟩;rw[hb12]at k12 hlt12|-;clear hb12;have hI:AlI w N B (b3+1) b12 P P M1 W3:=⟨k6.ext hE2,k12,⟨(hO.ext hE2).base_ (Nat.zero_le _),by have:=hO.sp.lt;omega,by have:=hO.sp.lt;omega,hap,((hO.ext hE2).bo).base_ hszW,⟨I,Hv0.out⟩,rfl,rfl,hE.trans hE2⟩,hdead⟩;clear k3 k6 hE0 hE1 hE2 hE hO hap k12;have k12:=hI.k12;have hls:=yd k12 0 3 _ rfl (qQ P M1);have hls2:=yd k12 3 3 _ rfl (yH P M1);have r6:W3.cell? ⟨b12,6,none⟩=some (.slice M1.A P.Q.length M1.c):=k12.cell 6;have r7:W3.cell? ⟨b12,7,none⟩=some (.int .i64 P.sq):=k12.cell 7;have l12:=k12.lt;have hpl:=zi7 P M1 n W3 hI.e.ho Hv0.out.gd (by omega);go_wp2_with fail;go_at_call 73;refine hpl.mono ?_;rintro e w4 ⟨k,i,rfl,hk,hE4⟩;clear hls hls2 r6 r7 l12 hpl;have hsi:=fun zs hz=>xB w4 zs i hz
 go_upto_region 9 with fail;clear hsi;refine yN (fun W5 k14 hE5=> ?_);have hlt14:=(k12.ext hE4).lt;obtain⟨b14,hb14⟩: ∃b,w4.heap.size=b:=⟨_,rfl⟩;rw[hb14]at k14 hlt14|-;clear hb14;have hE45:=hE4.trans hE5;have hI2:AlI w N B (b3+1) b12 P P M1 W5:=⟨hI.k6.ext hE45,k12.ext hE45,hI.e.ext hE45,hI.de⟩;clear hI k12 hE4 hE5 hE45;go_upto_if 51 with fail;obtain⟨zk,hzk⟩: ∃zk,(k==3)=zk:=⟨_,rfl⟩;rw[hzk];have Hzk:=Lib.hid hzk;have Hk:=Lib.hid hk;clear hzk hk;go_cut [13] (fun s wx=> ∃(k':Int) (i':Inc) (P1:Hpl) (M':Hmm),s= .int .i64 k'∧Blk wx b14 144 i'.a∧AlI w (N+256) B (b3+1) b12 P P1 M' wx∧zhm P1 k' i'∧k'≠3)
 case first=>
  cases zk with
  |false=>
   go_wp2_with fail;go_meet;exact⟨k,i,P,M1,rfl,k14,hI2.wide (by omega),Hk.out,by have:=Hzk.out;simpa using this⟩
  |true=>
   clear Hk;have hb3:=Hb3.out;have k12:=hI2.k12;have r14:W5.cell? ⟨b12,14,none⟩=some (.int .i64 P.k.co):=k12.cell 14;have l12:=k12.lt;have f12:=k12.froz;go_upto_region 11 with fail;clear r14 l12 f12;have k12a:Blk (W5.setCell ⟨b12,14,none⟩ (.int .i64 (wrap64 (P.k.co+1)))) b12 38 (ze {P with si:=P.si,k:={P.k with co:=wrap64 (P.k.co+1)}} M1):=k12.set_ 14 _;have e12:But [b12] W5 (W5.setCell ⟨b12,14,none⟩ (.int .i64 (wrap64 (P.k.co+1)))):=But.setCell (But.refl _ _) (by simp) _;have hI3:AlI w N B (b3+1) b12 P {P with si:=P.si,k:={P.k with co:=wrap64 (P.k.co+1)}} M1 (W5.setCell ⟨b12,14,none⟩ (.int .i64 (wrap64 (P.k.co+1)))):=⟨hI2.k6.but e12 (by simp;omega),k12a,(hI2.e.hp k12 e12 (by omega)).same _ _,hI2.de⟩;replace k14:=k14.but e12 (by simp;omega);obtain⟨P2,hP2⟩: ∃P2:Hpl,{P with si:=P.si,k:={P.k with co:=wrap64 (P.k.co+1)}}=P2:=⟨_,rfl⟩;rw[hP2]at hI3;have HC2:=Lib.hid (show P2.C=P.C from hI3.e.cf);clear hP2 k12a e12 k12 hI2;generalize W5.setCell ⟨b12,14,none⟩ (.int .i64 (wrap64 (P.k.co+1)))=W6 at*;obtain⟨I2,hv2⟩:=hI3.e.hv;have Hok:=Lib.hid hv2.ok;have hls:=yd hI3.k12 0 3 _ rfl (qQ P2 M1);have l12:=hI3.k12.lt;have hcm:=vY P2.C.s M1.Ac P2.C.l.length M1.cc P2.C.l P2.C.f P2.C.z W6 (Rd.of_own hI3.e.ho.ru) hv2.ok.nm hv2.ok.good hv2.ok.last;clear hv2;go_wp2_with fail;go_at_call 74;refine hcm.mono ?_;rintro e w7 ⟨rfl,hE7⟩;clear hls l12 hcm;replace hI3:=hI3.ext hE7;replace k14:=k14.ext hE7;obtain⟨z,hz⟩: ∃z,P2.C.z=z:=⟨_,rfl⟩;rw[hz];have Hz:=Lib.hid hz;clear hz;go_upto_if 60 with fail;go_cut [] (fun wx=> ∃P3:Hpl,P3.C=P2.C∧AlI w N B (b3+1) b12 P P3 M1 wx∧Blk wx b14 144 i.a)
   case first=>
    cases z with
    |false=>
     go_wp2_with fail;go_meet;exact⟨P2,rfl,hI3,k14⟩
    |true=>
     have k12:=hI3.k12;have r11:w7.cell? ⟨b12,11,none⟩=some (.int .i64 P2.si):=k12.cell 11;have l12:=k12.lt;have f12:=k12.froz;go_wp2_with fail;go_meet;have k12a:Blk (w7.setCell ⟨b12,11,none⟩ (.int .i64 (wrap64 (P2.si+1)))) b12 38 (ze {P2 with si:=wrap64 (P2.si+1),k:={P2.k with co:=P2.k.co}} M1):=k12.set_ 11 _;have e12:But [b12] w7 (w7.setCell ⟨b12,11,none⟩ (.int .i64 (wrap64 (P2.si+1)))):=But.setCell (But.refl _ _) (by simp) _;exact⟨{P2 with si:=wrap64 (P2.si+1),k:={P2.k with co:=P2.k.co}},rfl,⟨hI3.k6.but e12 (by simp;omega),k12a,(hI3.e.hp k12 e12 (by omega)).same _ _,hI3.de⟩,k14.but e12 (by simp;omega)⟩
   case rest=>
    clear hI3 k14;obtain⟨P3,hC3,hI3,k14⟩:=hcut;obtain⟨wa,hwa⟩: ∃wa,wa=wc:=⟨_,rfl⟩;subst hwa;have Hz3:=Lib.hid (show P3.C.z=z by rw[hC3];exact Hz.out);have HC3:=Lib.hid hC3;clear hC3;have hO3:=hI3.e.ho;obtain⟨I3,hv3⟩:=hI3.e.hv;have Hv3:=Lib.hid hv3;have hcm:=vY P3.C.s M1.Ac P3.C.l.length M1.cc P3.C.l P3.C.f P3.C.z wa (Rd.of_own hO3.ru) hv3.ok.nm hv3.ok.good hv3.ok.last;rw[Hz3.out]at hcm;clear hv3;go_upto_region 13 with fail;go_cut [75] (fun s wx=> ∃zb:Bool,s= .bool zb∧Ext wa wx)
    case first=>
     have hls:=yd hI3.k12 0 3 _ rfl (qQ P3 M1);have l12:=hI3.k12.lt;go_wp2_with fail;go_at_call 74;refine hcm.mono ?_;rintro e w8 ⟨rfl,hE8⟩;clear hls l12 hcm;have k12:=hI3.k12.ext hE8;have r11:w8.cell? ⟨b12,11,none⟩=some (.int .i64 P3.si):=k12.cell 11;have r2:w8.cell? ⟨b12,2,none⟩=some (.int .i64 P3.C.f):=k12.cell 2;have l12:=k12.lt;cases z with
     |false=>
      go_wp2_with fail;go_meet;exact⟨false,rfl,hE8⟩
     |true=>
      go_wp2_with fail;go_meet;exact⟨_,rfl,hE8⟩
    case rest=>
     clear hcm;obtain⟨zb,rfl,hE8⟩:=hcut;replace hI3:=hI3.ext hE8;replace k14:=k14.ext hE8;obtain⟨wb,hwb⟩: ∃wb,wb=wc:=⟨_,rfl⟩;subst hwb;go_upto_if 75 with fail;go_cut [] (fun wx=> ∃(P4:Hpl) (M4:Hmm),AlI w (N+256) B (b3+1) b12 P P4 M4 wx∧Blk wx b14 144 i.a∧BO wx (b14+1) M4.A M4.c M4.vs P4.Q)
     case first=>
      have hlc:=zj hI3.k12 (za P3 M1);cases zb with
      |true=>
       have hf:=zf4 N B P3 M1 I3 wb hI3.e.ho Hv3.out (by omega);go_wp2_with fail;go_at_call 58;refine hf.mono ?_;rintro e w9 ⟨P4,M4,bb,rfl,hO4,hgw,hgf,hap,hbz,hv4,hcf,hde,hE9⟩;clear hlc hf;have k12:=hI3.k12.ext hE9;have hst:=zO k12 rfl (za P4 M4) (zg P4 M4);have hsz:=za P4 M4;go_wp2_with fail;go_meet;have e12:=zD w9 b12 (ze P4 M4);exact⟨P4,M4,⟨(hI3.k6.ext hE9).but e12 (by simp;omega),setRow_heap w9 b12 _ (ze P4 M4) 38 (0,0) k12,(hI3.e.round hO4 hgw hgf hap hbz hv4 hcf hde hE9).hp k12 e12 (by omega),hde.1.trans hI3.de⟩,(k14.ext hE9).but e12 (by simp;omega),(hbz.base_ (by have:=k14.lt;omega)).hp k12 e12⟩
      |false=>
       have hf:=zpn N B n P3 M1 I3 wb hI3.e.ho Hv3.out (by omega) (by omega);go_wp2_with fail;go_at_call 75;refine hf.mono ?_;rintro e w9 ⟨P4,M4,bb,rfl,hO4,hgw,hgf,hap,hbz,hv4,hcf,hde,hE9⟩;clear hlc hf;have k12:=hI3.k12.ext hE9;have hst:=zO k12 rfl (za P4 M4) (zg P4 M4);have hsz:=za P4 M4;go_wp2_with fail;go_meet;have e12:=zD w9 b12 (ze P4 M4);exact⟨P4,M4,⟨(hI3.k6.ext hE9).but e12 (by simp;omega),setRow_heap w9 b12 _ (ze P4 M4) 38 (0,0) k12,(hI3.e.round hO4 hgw hgf hap hbz hv4 hcf hde hE9).hp k12 e12 (by omega),hde.1.trans hI3.de⟩,(k14.ext hE9).but e12 (by simp;omega),(hbz.base_ (by have:=k14.lt;omega)).hp k12 e12⟩
     case rest=>
      clear hI3 k14 hO3;obtain⟨P4,M4,hI4,k14,hz4⟩:=hcut;obtain⟨wd,hwd⟩: ∃wd,wd=wc:=⟨_,rfl⟩;subst hwd;obtain⟨I4,hv4⟩:=hI4.e.hv;have k12:=hI4.k12;have hls:=yd k12 0 3 _ rfl (qQ P4 M4);have hls2:=yd k12 3 3 _ rfl (yH P4 M4);have r6:wd.cell? ⟨b12,6,none⟩=some (.slice M4.A P4.Q.length M4.c):=k12.cell 6;have r7:wd.cell? ⟨b12,7,none⟩=some (.int .i64 P4.sq):=k12.cell 7;have l12:=k12.lt;have hpl:=zi7 P4 M4 n wd hI4.e.ho hv4.gd (by omega);clear hv4;go_wp2_with fail;go_at_call 73;refine hpl.mono ?_;rintro e wg ⟨k',i',rfl,hk',hE9⟩;clear hls hls2 r6 r7 l12 hpl k12;replace hI4:=hI4.ext hE9;replace k14:=k14.ext hE9;replace hz4:=hz4.ext hE9;have hs14:=yE k14 0 i'.a.toList (by simp[Inc.a]) (by simp[Inc.a,Value.oneCell']);go_upto_region 17 with fail;clear hs14;obtain⟨k14n,e14⟩:=zpp (i':=i') k14;have hb3:=Hb3.out;have hI5:AlI w (N+256) B (b3+1) b12 P P4 M4 (wg.setCells b14 0 i'.a.toList):=⟨hI4.k6.but e14 (by simp;omega),hI4.k12.but e14 (by simp;omega),hI4.e.inc hz4 (by omega) k14 e14 (by omega),hI4.de⟩;clear hz4 hI4 k14 e14;generalize wg.setCells b14 0 i'.a.toList=wh at*;obtain⟨zk',hzk'⟩: ∃zk',(k'==3)=zk':=⟨_,rfl⟩;have Hzk':=Lib.hid hzk';have Hk':=Lib.hid hk';clear hk';cases zk' with
      |false=>
       go_wp2_with fail;go_meet;exact⟨k',i',P4,M4,rfl,k14n,hI5,Hk'.out,by have:=Hzk'.out;simpa using this⟩
      |true=>
       have k12:=hI5.k12;have l12:=k12.lt;have f12:=k12.froz;have c21:wh.cell? ⟨b12,21,none⟩=some (.bool P4.dead):=k12.cell 21;go_upto_region 19 with fail;clear l12 f12 c21;have k12a:Blk (wh.setCell ⟨b12,21,none⟩ (.bool true)) b12 38 (ze {P4 with dead:=true} M4):=k12.set_ 21 _;have e12:But [b12] wh (wh.setCell ⟨b12,21,none⟩ (.bool true)):=But.setCell (But.refl _ _) (by simp) _;have hpE:=(hI5.e.hp k12 e12 (by omega)).dead true;have k6:=hI5.k6.but e12 (by simp;omega);generalize wh.setCell ⟨b12,21,none⟩ (.bool true)=wi at*;obtain⟨P5,hP5⟩: ∃P5:Hpl,{P4 with dead:=true}=P5:=⟨_,rfl⟩;rw[hP5]at k12a hpE;have HP5:=Lib.hid hP5;clear hP5;have hlc:=zj k12a (za P5 M4);have hst:=zO k6 rfl (za P5 M4) (zg P5 M4);have hsz:=za P5 M4;go_wp2_with fail;exact zf6 (b12:=b12) hpE k6 (by omega) (by omega) (by rw[<-HP5.out]) rfl rfl rfl rfl
 case rest=>
  clear hI2 Hk Hzk;obtain⟨k',i',P1,M2,rfl,k14,hI,hk',hk3⟩:=hcut;obtain⟨wa,hwa⟩: ∃wa,wa=wc:=⟨_,rfl⟩;subst hwa;have hb3:=Hb3.out;obtain⟨I1,hv1⟩:=hI.e.hv;obtain⟨T0,R,rfl,hT0,hvh,hpi⟩:=hv1.plan (by omega) hk' hk3;have Hv1:=Lib.hid hv1;have Hvh:=Lib.hid hvh;have Hpi:=Lib.hid hpi;have hb12:b3+1<b12:=hlt12;have hgr:=zq6 M2.gW M2.cW M2.gF M2.cF P1.S T0 R n B wa hI.e.ho.sp hvh.hok.lay hn1 hn48;clear hv1 hvh hpi hk';have k12:=hI.k12;have hls2:=yd k12 3 3 _ rfl (yH P1 M2);have hl14:=qP k14;have l12:=k12.lt;have l14:=k14.lt;go_wp2_with fail;go_at_call 76;refine hgr.mono ?_;rintro e0 w1 ⟨i,ad,e,rfl,hB1,hD⟩;clear hgr hls2 hl14 l12 l14;have hsi:=fun zs hz=>xB w1 zs i hz
  go_upto_region 21 with fail;clear hsi;refine yN (fun W k15 hE1=> ?_);obtain⟨b15,hb15⟩: ∃b,w1.heap.size=b:=⟨_,rfl⟩;rw[hb15]at k15|-;clear hb15;rcases hD with⟨rfl,hS⟩|⟨rfl,fs,c,hq,hb,hf,hl,hw,hade,hfl,hcl,hcd,hch,hS⟩
  ·have hX:AlX w (b3+1) b12 P1 M2 W:=(hI.toX.sw (vM hB1 (by simp)) hS rfl rfl rfl).ext hE1
   have hcf:=hI.e.cf;have hus:=hI.e.us;clear hI k14 k15 hB1 hE1 hS k12;have k12:=hX.k12;have l12:=k12.lt;have f12:=k12.froz;have c21:W.cell? ⟨b12,21,none⟩=some (.bool P1.dead):=k12.cell 21;go_upto_region 23 with fail;clear l12 f12 c21;have k12a:Blk (W.setCell ⟨b12,21,none⟩ (.bool true)) b12 38 (ze {P1 with dead:=true} M2):=k12.set_ 21 _;have e12:But [b12] W (W.setCell ⟨b12,21,none⟩ (.bool true)):=But.setCell (But.refl _ _) (by simp) _;have hpE:HpE w (W.setCell ⟨b12,21,none⟩ (.bool true)) (N+256) B P {P1 with dead:=true} M2:=((⟨hX.ho,hX.gw,hX.gf,hX.ap,hX.bz,⟨I1,Hv1.out⟩,hcf,hus,hX.ex⟩:HpE w W (N+256) B P P1 M2).hp k12 e12 (by omega)).dead true;have k6:=hX.k6.but e12 (by simp;omega);generalize W.setCell ⟨b12,21,none⟩ (.bool true)=wi at*;obtain⟨P5,hP5⟩: ∃P5:Hpl,{P1 with dead:=true}=P5:=⟨_,rfl⟩;rw[hP5]at k12a hpE;have HP5:=Lib.hid hP5;clear hP5;have hlc:=zj k12a (za P5 M2);have hst:=zO k6 rfl (za P5 M2) (zg P5 M2);have hsz:=za P5 M2;go_wp2_with fail;exact zf6 (b12:=b12) hpE k6 (by omega) (by omega) (by rw[<-HP5.out]) rfl rfl rfl rfl
  ·obtain⟨T,hT⟩: ∃T:In,T=⟨⟨T0.x.q,T0.x.b,c⟩,T0.wd+(1+r+d),T0.obs++ [⟨T0.wd,r,d⟩]⟩:=⟨_,rfl⟩
   have hi:i=T.inc:=by
    obtain⟨iq,ib,i1,il,iw⟩:=i;simp only at hq hb hf hl hw;subst hq hb hf hl hw hT;rw[<-hn];rfl
   subst hi;have hX:AlX w (b3+1) b12 {P1 with S:=⟨P1.S.sh,P1.S.ws,fs⟩} M2 W:=(hI.toX.sw (vM hB1 (by simp)) hS rfl hfl rfl).ext hE1;have hcf:=hI.e.cf;have Hus:=Lib.hid hI.e.us;have hde1:=hI.de;have hB8:=Hvh.out.hok.lay.B8;have hpow:=Hvh.out.hok.lay.pow;have hTx:T.x=⟨T0.x.q,T0.x.b,c⟩:=by rw[hT]
   have hp:T0.wd+(r+d)<T.x.c.length*B:=by
    have:=xL (by omega) (Nat.le_of_eq hcl);rw[hTx];show _<c.length*B;omega
   have hch1:Chs ⟨P1.S.sh,P1.S.ws,fs⟩ (T.x::R.map (·.x)):=by rw[hTx];exact hch
   have hmk:=zoy M2.gW M2.cW M2.gF M2.cF 0 ⟨P1.S.sh,P1.S.ws,fs⟩ (T.x::R.map (·.x)) T.x B T0.wd r d W hX.ho.sp hch1 List.mem_cons_self hpow hp hr hd32;have hade1:ad=((zy T.x.c B T0.wd:Nat):Int):=by rw[hTx];exact hade
   obtain⟨t0,ht0⟩: ∃t0,zy T.x.c B T0.wd=t0:=⟨_,rfl⟩;rw[ht0]at hmk hade1;subst hade1;have HT:=Lib.hid hT;have Hcl:=Lib.hid hcl;have Hcd:=Lib.hid hcd;have Hch:=Lib.hid hch;have HTx:=Lib.hid hTx;have Ht0:=Lib.hid ht0;obtain⟨P2,hP2⟩: ∃P2:Hpl,P2={P1 with S:=⟨P1.S.sh,P1.S.ws,fs⟩}:=⟨_,rfl⟩;rw[<-hP2]at hX;have hS2:(⟨P1.S.sh,P1.S.ws,fs⟩:Sp)=P2.S:=by rw[hP2]
   rw[hS2]at hmk;have HP2:=Lib.hid hP2;clear hT hq hb hf hl hw hcl hcd hch hTx hp hch1 hade ht0 hP2 hS hI k14 hB1 hE1 k12 hS2 hfl hpow;have k12:=hX.k12;have hls2:=yd k12 3 3 _ rfl (yH P2 M2);have l12:=k12.lt;go_wp2_with fail;go_at_call 77;refine hmk.mono ?_;rintro e0 w2 ⟨ws,rfl,hwl,hch3,hS3,hB3,hmi⟩;clear hmk hls2 l12 k12;have hX3:AlX w (b3+1) b12 {P2 with S:=⟨P2.S.sh,ws,P2.S.fs⟩} M2 w2:=hX.sw (vM hB3 (by simp)) hS3 hwl rfl rfl;replace k15:=k15.but hB3 (fun hm=>zN hX.ho.sp.W k15 (by decide) (by rw[List.mem_singleton.1 hm];rfl))
   have hal:Vh ⟨P1.S.sh,ws,fs⟩ B (T::R) P1.ss P1.us P1.rs:=by
    have h1:Chs ⟨P1.S.sh,ws,fs⟩ (T.x::R.map (·.x)):=by
     have:=hch3;rw[HP2.out]at this;exact this
    rw[HTx.out]at h1;rw[HT.out];refine znb Hvh.out hr hd32 (by rw[hn];exact Hcl.out) Hcd.out h1 ?_;have:=hmi;rw[HP2.out,HTx.out]at this;exact this
   have hal':Vh ⟨P2.S.sh,ws,P2.S.fs⟩ B (T::R) P1.ss P1.us P1.rs:=by rw[HP2.out];exact hal
   have Hal:=Lib.hid hal';clear hal hal' hmi hch3 hS3 hwl hB3 hX;obtain⟨P3,hP3⟩: ∃P3:Hpl,P3={P2 with S:=⟨P2.S.sh,ws,P2.S.fs⟩}:=⟨_,rfl⟩;rw[<-hP3]at hX3;have HP3:=Lib.hid (show P3={P1 with S:=P3.S}∧Vh P3.S B (T::R) P1.ss P1.us P1.rs by rw[hP3];exact⟨by rw[HP2.out],Hal.out⟩);clear hP3 Hal HP2;go_upto_if 124 with fail;obtain⟨zk,hzk⟩: ∃zk,(k'==2)=zk:=⟨_,rfl⟩;rw[hzk];have Hzk:=Lib.hid hzk;clear hzk;go_cut [] (fun wx=> ∃(P4:Hpl) (M4:Hmm),AlX w (b3+1) b12 P4 M4 wx∧P4={P3 with Q:=P4.Q,sq:=P4.sq}∧zqk P1 k' T0 T P4.Q P4.sq)
   case first=>
    have hg:=Hv1.out.gd;have hPQ:P3.Q=P1.Q∧P3.sq=P1.sq:=by rw[HP3.out.1];exact⟨rfl,rfl⟩
    obtain⟨q0,hq0,hpc⟩:=Hpi.out;have hTq:T.inc.q=T0.x.q:=by show T.x.q=_;rw[HTx.out]
    have hTb:T.inc.b=((0:Nat):Int):=by show T.x.b=_;rw[HTx.out];exact hT0
    have k12:=hX3.k12;have hl15:=qP k15;have c6:w2.cell? ⟨b12,6,none⟩=some (.slice M2.A P3.Q.length M2.c):=k12.cell 6;have l12:=k12.lt;have hb0:BO w2 0 M2.A M2.c M2.vs P3.Q:=hX3.bz.base_ (Nat.zero_le _);have hq1:P3.Q.length<=1000:=by rw[hPQ.1];exact hg.sm.q1
    have hq2: ∀q∈P3.Q,q.length<=10000:=by rw[hPQ.1];exact hg.sm.q2
    have hq03:P3.Q[0]? =some q0:=by rw[hPQ.1];exact hq0
    have hwsz:=hX3.ex.size_le;have Hg:=Lib.hid hg;have Hq0:=Lib.hid hq0;have HPQ:=Lib.hid hPQ;cases zk with
    |true=>
     have hk2:k'=2:=by have:=Hzk.out;simpa using this
     have hpc2: ∀y,q0.getLast? =some y->y.q<T.inc.q:=by
      rcases hpc with h|⟨_,_,e,h⟩
      ·have:=h.1
       omega
      ·rw[hTq,e]
       exact h
     have hs0:0<=P3.sq∧P3.sq<=((N+256:Nat):Int):=by rw[hPQ.2];exact Hv1.out.s0
     have hadd:=ziv M2.A M2.c 0 M2.vs P3.Q q0 T.inc w2 hb0 hq03 hTb hq1 hq2 hpc2;have Hk2:=Lib.hid hk2;clear hk2 hpc2 hq0 hq03 hq1 hq2 hTq hTb hPQ hg hpc;go_wp2_with fail;go_at_call 78;refine hadd.mono ?_;rintro e w3 ⟨A2,c2,vs2,rfl,hbo2,hE3⟩;clear hadd hl15 c6 l12;have k12r:=k12.ext hE3;have c13a:w3.cell? ⟨b12,6,none⟩=some (.slice M2.A P3.Q.length M2.c):=k12r.cell 6;have c13b:w3.cell? ⟨b12,7,none⟩=some (.int .i64 P3.sq):=k12r.cell 7;have l13:=k12r.lt;have f13:=k12r.froz;obtain⟨Q',hQ'⟩: ∃Q',P3.Q.set 0 (q0++ [T.inc])=Q':=⟨_,rfl⟩;rw[hQ']at hbo2|-;have HQ':=Lib.hid hQ';clear hQ';have e13:But [b12] w3 ((w3.setCell ⟨b12,6,none⟩ (.slice A2 Q'.length c2)).setCell ⟨b12,7,none⟩ (.int .i64 (P3.sq+1))):=But.setCell (But.setCell (But.refl _ _) (by simp) _) (by simp) _;have k13s:Blk ((w3.setCell ⟨b12,6,none⟩ (.slice A2 Q'.length c2)).setCell ⟨b12,7,none⟩ (.int .i64 (P3.sq+1))) b12 38 (ze {P3 with Q:=Q',sq:=P3.sq+1} {M2 with A:=A2,c:=c2,vs:=vs2}):=(k12r.set_ 6 _).set_ 7 _
     have hX4:AlX w (b3+1) b12 {P3 with Q:=Q',sq:=P3.sq+1} {M2 with A:=A2,c:=c2,vs:=vs2} ((w3.setCell ⟨b12,6,none⟩ (.slice A2 Q'.length c2)).setCell ⟨b12,7,none⟩ (.int .i64 (P3.sq+1))):=
      (hX3.ext hE3).belts e13 k13s (hbo2.base_ hwsz) (by omega) (by omega)
     go_wp2_with fail;go_meet;exact⟨{P3 with Q:=Q',sq:=P3.sq+1},{M2 with A:=A2,c:=c2,vs:=vs2},hX4,rfl,q0,Hq0.out,.inr ⟨Hk2.out,by rw[<-HPQ.out.2],by rw[<-HPQ.out.1];exact HQ'.out.symm⟩⟩
    |false=>
     have hk2:k'≠2:=by have:=Hzk.out;simpa using this
     obtain⟨hk1,m,hm,hne⟩:k'=1∧∃m,q0[m]? =some T0.inc∧∀y∈q0.take m,y.q≠T0.x.q:=by
      rcases hpc with h|h
      ·exact⟨h.1,h.2.2⟩
      ·exact absurd h.1 hk2
     have hrep:=zaw M2.A M2.c 0 m M2.vs P3.Q q0 T.inc T0.inc w2 hb0 hq03 hTb hq1 hq2 hm hTq.symm (fun y hy=>by rw[hTq];exact hne y hy);have Hm:=Lib.hid hm;have Hk1:=Lib.hid hk1;clear hne hm hk1 hk2 hq0 hq03 hq1 hq2 hTq hTb hPQ hg hpc;go_wp2_with fail;go_at_call 79;refine hrep.mono ?_;rintro e w3 ⟨A2,c2,vs2,rfl,hbo2,hE3⟩;clear hrep hl15 c6 l12;have k12r:=k12.ext hE3;have c13a:w3.cell? ⟨b12,6,none⟩=some (.slice M2.A P3.Q.length M2.c):=k12r.cell 6;have l13:=k12r.lt;have f13:=k12r.froz;obtain⟨Q',hQ'⟩: ∃Q',P3.Q.set 0 (q0.set m T.inc)=Q':=⟨_,rfl⟩;rw[hQ']at hbo2|-;have HQ':=Lib.hid hQ';clear hQ';have e13:But [b12] w3 (w3.setCell ⟨b12,6,none⟩ (.slice A2 Q'.length c2)):=But.setCell (But.refl _ _) (by simp) _;have k13s:Blk (w3.setCell ⟨b12,6,none⟩ (.slice A2 Q'.length c2)) b12 38 (ze {P3 with Q:=Q',sq:=P3.sq} {M2 with A:=A2,c:=c2,vs:=vs2}):=k12r.set_ 6 _
     have hX4:AlX w (b3+1) b12 {P3 with Q:=Q',sq:=P3.sq} {M2 with A:=A2,c:=c2,vs:=vs2} (w3.setCell ⟨b12,6,none⟩ (.slice A2 Q'.length c2)):=
      (hX3.ext hE3).belts e13 k13s (hbo2.base_ hwsz) (by omega) (by omega)
     go_wp2_with fail;go_meet;exact⟨{P3 with Q:=Q',sq:=P3.sq},{M2 with A:=A2,c:=c2,vs:=vs2},hX4,rfl,q0,Hq0.out,.inl ⟨Hk1.out,by rw[<-HPQ.out.2],m,Hm.out,by rw[<-HPQ.out.1];exact HQ'.out.symm⟩⟩
   case rest=>
    clear hX3 k15;obtain⟨P4,M4,hX4,hP4,hPQ⟩:=hcut;obtain⟨wb,hwb⟩: ∃wb,wb=wc:=⟨_,rfl⟩;subst hwb;have HP4:=Lib.hid hP4;have HPQ:=Lib.hid hPQ;clear hP4 hPQ;have k12:=hX4.k12;have c12:wb.cell? ⟨b12,12,none⟩=some (.int .i64 P4.k.al):=k12.cell 12;have c13:wb.cell? ⟨b12,13,none⟩=some (.int .i64 P4.k.ob):=k12.cell 13;have l12:=k12.lt;have f12:=k12.froz;go_upto_region 31 with fail;clear c12 c13 l12 f12;have k12a:Blk ((wb.setCell ⟨b12,12,none⟩ (.int .i64 (wrap64 (P4.k.al+n)))).setCell ⟨b12,13,none⟩ (.int .i64 (wrap64 (P4.k.ob+1)))) b12 38 (ze {P4 with k:={P4.k with al:=wrap64 (P4.k.al+n),ob:=wrap64 (P4.k.ob+1)}} M4):=(k12.set_ 12 _).set_ 13 _;have e12:But [b12] wb ((wb.setCell ⟨b12,12,none⟩ (.int .i64 (wrap64 (P4.k.al+n)))).setCell ⟨b12,13,none⟩ (.int .i64 (wrap64 (P4.k.ob+1)))):=But.setCell (But.setCell (But.refl _ _) (by simp) _) (by simp) _;have ho:=hX4.ho.bx k12 e12;have hz:=hX4.bz.hp k12 e12;have k6:=hX4.k6.but e12 (by simp;omega);have hE:=But.ext hX4.ex e12 (fun q hq=>by have:=List.mem_singleton.1 hq;omega);generalize(wb.setCell ⟨b12,12,none⟩ (.int .i64 (wrap64 (P4.k.al+n)))).setCell ⟨b12,13,none⟩ (.int .i64 (wrap64 (P4.k.ob+1)))=W5 at*;obtain⟨P5,hP5⟩: ∃P5:Hpl,P5={P4 with k:={P4.k with al:=wrap64 (P4.k.al+n),ob:=wrap64 (P4.k.ob+1)}}:=⟨_,rfl⟩;rw[<-hP5]at k12a;have hO5:HO W5 0 P5 M4:=by rw[hP5];exact⟨ho.ru,ho.sp,ho.bo,ho.so,ho.hp,ho.ro⟩
    have hz5:BO W5 w.heap.size M4.A M4.c M4.vs P5.Q:=by rw[hP5];exact hz
    have hap5:Ap P5 M4:=by rw[hP5];exact hX4.ap
    have hPP:P5.S=P3.S∧P5.ss=P1.ss∧P5.us=P1.us∧P5.rs=P1.rs∧P5.C=P1.C∧P5.dead=P1.dead∧P5.k.cp=P1.k.cp∧P5.k.cd=P1.k.cd∧P5.Q=P4.Q∧P5.sq=P4.sq:=by
     rw[hP5,HP4.out,HP3.out.1];exact⟨rfl,rfl,rfl,rfl,rfl,rfl,rfl,rfl,rfl,rfl⟩
    have hnd:((T0::R).map (·.x.q)).Nodup:=by
     have:=Hvh.out.hok.lay.ch.sq;rw[List.map_map]at this;exact this
    have hTw:1<=T.wd:=by
     rw[HT.out];show 1<=T0.wd+(1+r+d);omega
    have hv5:Hv (N+256+1) P5 B (T::R):=Hv1.out.alloc Hpi.out hT0 hnd (by rw[HTx.out]) (by rw[HTx.out]) hTw (by rw[hPP.1,hPP.2.1,hPP.2.2.1,hPP.2.2.2.1];exact HP3.out.2) hPP.2.1 hPP.2.2.2.2.1 ⟨hPP.2.2.2.2.2.2.1,hPP.2.2.2.2.2.2.2.1⟩ (by rw[hPP.2.2.2.2.2.2.2.2.1,hPP.2.2.2.2.2.2.2.2.2];exact HPQ.out);have hpE:HpE w W5 (N+257) B P P5 M4:=⟨hO5,hX4.gw,hX4.gf,hap5,hz5,⟨_,hv5⟩,hPP.2.2.2.2.1.trans hcf,hPP.2.2.1.trans Hus.out,hE⟩;have hdead5:P5.dead=false:=hPP.2.2.2.2.2.1.trans hde1
    have ho5: ∃o∈aos B (T::R),(t0:Int)=(o.f 0:Int):=by
     refine⟨zZ B T.x.c ⟨T0.wd,r,d⟩,zK.2 ⟨T,List.mem_cons_self,⟨T0.wd,r,d⟩,?_,rfl⟩,?_⟩
     ·rw[HT.out]
      exact List.mem_append_right _ (List.mem_singleton.2 rfl)
     ·rw[yn (b:=⟨T0.wd,r,d⟩) (k:=0) (by unfold Ob.n;omega),<-Ht0.out]
      rfl
    have Hv5:=Lib.hid hv5;have Ho5:=Lib.hid ho5;have HpE5:=Lib.hid hpE;have hlc:=zj k12a (za P5 M4);have hst:=zO k6 rfl (za P5 M4) (zg P5 M4);have hsz:=za P5 M4;clear hP5 hPP hnd hTw hv5 hpE ho5 hO5 hz5 hap5 ho hz k12 hX4 e12 hE;go_wp2_with fail;have e6:=zD W5 (b3+1) (ze P5 M4);have k6a:Blk (W5.setRow (b3+1) (ze P5 M4)) (b3+1) 38 (ze P5 M4):=setRow_heap W5 (b3+1) _ (ze P5 M4) 38 (0,0) k6;exact zdf rfl rfl rfl rfl k6a (za _ _) ⟨P5,M4,t0,0,T::R,rfl,HpE5.out.hp k6 e6 (by omega),.inr ⟨rfl,hdead5,Hv5.out,Ho5.out⟩⟩
theorem zi8: ∀{l:List Ob} {p e k:Nat} {b:Ob},yS p l e->l[k]? =some b->b.o=p+total (l.take k)
 | [],_,_,k,b,_,h=>by simp at h
 |c::l,p,e,0,b,ht,h=>by
  simp only[List.getElem?_cons_zero,Option.some.injEq]at h;subst h;simp[total,ht.1]
 |c::l,p,e,k+1,b,ht,h=>by
  rw[List.getElem?_cons_succ]at h;have:=zi8 ht.2 h;rw[List.take_succ_cons,this];simp only[total];omega
theorem zb1: ∀{l:List Ob} {p e:Nat},yS p l e->e=p+total l
 | [],p,e,h=>by simp[total];exact h.symm
 |c::l,p,e,h=>by
  have:=zb1 h.2;simp only[total];omega
theorem zb2: ∀{l:List Ob} {k:Nat} {b:Ob},l[k]? =some b->total (l.take (k+1))=total (l.take k)+b.n
 | [],k,b,h=>by simp at h
 |c::l,0,b,h=>by
  simp only[List.getElem?_cons_zero,Option.some.injEq]at h;subst h;simp[total]
 |c::l,k+1,b,h=>by
  rw[List.getElem?_cons_succ]at h;have:=zb2 h;simp only[List.take_succ_cons,total]at*;omega
theorem zaj: ∀l:List Ob,l.length<=total l
 | []=>Nat.zero_le _
 |c::l=>by
  have:=zaj l;have:1<=c.n:=by unfold Ob.n;omega
  simp only[List.length_cons,total];omega
def obA(B:Nat)(c:List Nat)(l:List Ob):List Nat:=l.map fun b=>zy c B b.o
theorem zne{B:Nat}{c:List Nat}{l:List Ob}{k:Nat}{b:Ob}(h:l[k]? =some b):obA B c (l.take (k+1))=obA B c (l.take k)++ [zy c B b.o]:=by
 unfold obA;rw[List.take_add_one,h];simp
def zho(w:World)(l:List Nat)(r:Ending)(w':World):Prop:=
 ∃A c,r= .returned (.tuple #[.slice A l.length c,.int .i64 0])∧w'.ownsRow w.heap.size 3 1 (.slice A l.length c) l.length (yb (yB l))∧Ext w w'
theorem zkn(A Bf:Option Addr)(a b:Nat)(S:Sp)(I:List In)(T:In)(B:Nat)(w:World)(h:SRd w S A Bf)(hk:Hok S B I)(hT:T∈I):
 Calls Tryz.prog 98 #[spV S A a Bf b,.agg T.inc.a] w (zho w (obA B T.x.c T.obs)):=by
 have hB8:=hk.lay.B8;have hpow:=hk.lay.pow;have hpi:(2:Int)^S.sh=(B:Int):=by rw[<-hpow];simp
 have hshn:((S.sh:Nat):Int).toNat=S.sh:=by simp
 have hsh:=hk.lay.ch.sh;have hlen:=hk.lay.len hT;have Hk:=Lib.hid hk;have HT:=Lib.hid hT;have Hpow:=Lib.hid hpow;have Htile:=Lib.hid (hk.lay.tile T hT);clear hk hT hpow
 obtain⟨g,hg,hgf⟩: ∃g:Int,yz T.x.c 0=g∧(T.obs≠ [] -> ∃n:Nat,g=(n:Int)∧T.x.c[0]? =some n∧n<=64):=by
  refine⟨_,rfl,fun hne=> ?_⟩;obtain⟨b0,hb0⟩: ∃b0,b0∈T.obs:=List.exists_mem_of_ne_nil _ hne;have h1:=Hk.out.lay.in_ HT.out hb0 (k:=0) (by unfold Ob.n;omega)
  have hc:0<T.x.c.length:=by
   rcases Nat.eq_zero_or_pos T.x.c.length with hz|hz
   ·rw[hz]at h1;omega
   ·exact hz
  obtain⟨n,hn⟩: ∃n,T.x.c[0]? =some n:=⟨_,List.getElem?_eq_getElem hc⟩;have h2:=(List.getElem?_eq_some_iff.1 (Hk.out.lay.ch.fr T.x (Hk.out.lay.mem HT.out) 0 n hn)).1;have h3:=Hk.out.lay.ch.n2.2;exact⟨n,qO hn,hn,by omega⟩
 have Hgf:=Lib.hid hgf;clear hgf;show Calls Tryz.prog 98 #[.agg #[.int .i64 S.sh,.slice A S.ws.length a,.slice Bf S.fs.length b],.agg #[.int .i64 T.x.q,.int .i64 T.x.b,.int .i64 (yz T.x.c 0),.int .i64 (yp T.x.c),.int .i64 T.wd]] w (zho w (obA B T.x.c T.obs));rw[hg];clear hg;go_enter Tryz.func98,Tryz.ntmps98;go_upto_region 2 with fail;refine za0 (fun W kS kI hE0=> ?_);obtain⟨b2,hb2⟩: ∃b,w.heap.size=b:=⟨_,rfl⟩;rw[hb2]at kS kI|-;have Hb2:=Lib.hid hb2;clear hb2;have hbw:=hE0.size_le;go_wp2_with fail;go_loopw [6,7] (fun s i wr=> ∃(k:Nat) (D:Option Addr) (c:Nat),k<=T.obs.length∧i= .int .i64 (total (T.obs.take k):Nat)∧s= .slice D k c∧wr.ownsRow W.heap.size 3 1 (.slice D k c) k (yb (yB (obA B T.x.c (T.obs.take k))))∧Ext W wr) (fun _ i _=>T.wd-(intOf i).toNat);case atStart=>exact⟨0,none,0,by omega,by simp[total],rfl,zP _ _ _ _,Ext.refl _⟩
 case round=>
  obtain⟨k,D,c,hkl,rfl,rfl,hown,hE⟩:=hrel;obtain⟨p,hp⟩: ∃p,total (T.obs.take k)=p:=⟨_,rfl⟩;rw[hp];have Hp:=Lib.hid hp;clear hp;have kSr:=kS.ext hE;have kIr:=kI.ext hE;have cS:=kSr.cell;have lS:=kSr.lt;have cI:=kIr.cell;have lI:=kIr.lt;by_cases hlt:k<T.obs.length
  ·obtain⟨ob,hob⟩: ∃ob,T.obs[k]? =some ob:=⟨_,List.getElem?_eq_getElem hlt⟩
   have hmem:=List.mem_of_getElem? hob
   have hat:ob.o=p:=by
    have:=zi8 Htile.out hob;rw[Hp.out]at this;omega
   have hbd:=yS.mem Htile.out ob hmem;have hn1:ob.n=1+ob.r+ob.d:=rfl;have hdec:decide ((p:Int)<T.wd)=true:=by simp;omega
   have hdec':decide (p<T.wd)=true:=by simp;omega
   obtain⟨g0,rfl,hg0,hg64⟩:=Hgf.out (List.ne_nil_of_mem hmem);have hin:=Hk.out.lay.in_ HT.out hmem (k:=ob.r+ob.d) (by omega);have hin0:=Hk.out.lay.in_ HT.out hmem (k:=0) (by omega);have ho:zZ B T.x.c ob∈aos B I:=zK.2 ⟨T,HT.out,ob,hmem,rfl⟩;obtain⟨hr15,hd32,hhd⟩:=Hk.out.head _ ho
   have hhd':S.ws[zy T.x.c B p]? =some (Go.Proofs.YtopcdfbplknmlaaGreat.hd ob.r ob.d):=by
    obtain⟨_,_,_,_,_,hlt2⟩:=vU Hk.out.lay.ch Hpow.out (Hk.out.lay.mem HT.out) hin0;rw[Nat.add_zero,hat]at hlt2;rw[yn (show 0<ob.n by omega),Nat.add_zero,hat]at hhd;rw[List.getElem?_eq_getElem hlt2,Option.some.injEq];rw[<-show(zZ B T.x.c ob).r=ob.r from rfl,<-show(zZ B T.x.c ob).d=ob.d from rfl,<-hhd];unfold Sp.w;rw[List.getD_eq_getElem?_getD,List.getElem?_eq_getElem hlt2];rfl
   obtain⟨t,ht⟩: ∃t,zy T.x.c B p=t:=⟨_,rfl⟩;have hgo:=zik A Bf a b S (I.map (·.x)) T.x ((g0:Int)*(B:Int)) g0 B p wr (h.ext (hE0.trans hE)) Hk.out.lay.ch (Hk.out.lay.mem HT.out) Hpow.out hg0 rfl (by omega);have hlo:=fun w' (hx:SRd w' S A Bf)=>qU A Bf a b S (I.map (·.x)) T.x B p ob.r ob.d w' hx Hk.out.lay.ch (Hk.out.lay.mem HT.out) Hpow.out (by omega) hr15 hd32 hhd'
   unfold spV at hgo hlo;rw[ht]at hgo hlo;have hts:obA B T.x.c (T.obs.take (k+1))=obA B T.x.c (T.obs.take k)++ [t]:=by rw[zne hob,hat,ht]
   have htot:total (T.obs.take (k+1))=p+ob.n:=by rw[zb2 hob,Hp.out]
   have Hts:=Lib.hid hts;have Htot:=Lib.hid htot;have hr15':ob.r<=15:=hr15;have hd32':ob.d<=32:=hd32;have hgB:g0*B<=64*256:=Nat.mul_le_mul hg64 hB8.2;obtain⟨rr,hrr⟩: ∃rr,ob.r=rr:=⟨_,rfl⟩;obtain⟨dd,hdd⟩: ∃dd,ob.d=dd:=⟨_,rfl⟩;have hnn:ob.n=1+rr+dd:=by omega
   rw[hrr]at hlo hr15';rw[hdd]at hlo hd32';have hc1:decide ((T.wd:Int)<(p:Int)+1+rr+dd)=false:=by simp;omega
   have hpp:p+1+rr+dd<=T.wd:=by omega
   have hk16:k<=16384:=by
    have:=zaj (T.obs.take k);rw[Hp.out,List.length_take]at this;omega
   have Hnn:=Lib.hid hnn;clear hob hmem hin hin0 ho hr15 hd32 hhd hhd' ht hts htot hg0 hat hn1 hrr hdd hnn;go_wp2_with fail;go_at_call 65;refine hgo.mono ?_;rintro e w3 ⟨rfl,hE3⟩;have kS3:=kSr.ext hE3;have kI3:=kIr.ext hE3;have lk:=hlo w3 (h.ext ((hE0.trans hE).trans hE3));clear cS lS cI lI hgo hlo;have cS:=kS3.cell;have lS:=kS3.lt;have cI:=kI3.cell;have lI:=kI3.lt;go_wp2_with fail;go_at_call 41;refine lk.mono ?_;rintro e w1 ⟨rfl,hE4⟩;have kI4:=kI3.ext hE4;have hown1:=zm (zm hown hE3) hE4;have hsz:=((hE.trans hE3).trans hE4).size_le;clear cS lS cI lI lk;have cI:=kI4.cell;have lI:=kI4.lt;go_wp2_with(first|(at_builtin;refine zJ rfl Tryz.elI _ _ rfl W.heap.size _ _ _ rfl (z8 hown1 _) _ 1 1 _ rfl (xm _ _ _) (by simp[Value.oneCell']) (by omega) (by omega) (by(first|omega|(simp;done)|(simp;omega))) ?_;intro A2 c2 w2 hown2 hg2 hat2));have hE5:Ext W w2:=yy (Ext.alloc ((hE.trans hE3).trans hE4) _) hg2 (z8 hown1 _) (Nat.le_refl _);go_roundw;case rel=>exact⟨k+1,A2,c2,by omega,by rw[Htot.out,Hnn.out];go_num,rfl,by rw[Hts.out,<-qg];simpa using hown2,hE5⟩
   case measure=>simp[intOf];omega
  ·have hke:k=T.obs.length:=by omega
   have hpe:p=T.wd:=by
    rw[<-Hp.out,hke,List.take_length];have:=zb1 Htile.out;omega
   have hdec:decide ((p:Int)<T.wd)=false:=by simp;omega
   have hdec':decide (p<T.wd)=false:=by simp;omega
   have hol:(obA B T.x.c T.obs).length=T.obs.length:=by simp[obA]
   have Hol:=Lib.hid hol;have Hke:=Lib.hid hke;rw[hke,List.take_length]at hown;clear hke hpe hol;go_wp2_with fail;refine bodyPost_ret (v:= .tuple #[.slice D k c,.int .i64 0]) (by simp[results,Tryz.results98,go_sem]) rfl ?_;refine⟨D,c,by rw[Hol.out,Hke.out],?_,hE0.trans hE⟩;rw[Hol.out];exact zu hown hbw
theorem zf7(A:Option Addr)(c:Nat)(vs:List Value)(Q:List (List Inc))(T:In)(w:World)(h:BO w 0 A c vs Q)(hn:Q.length<=1000)(hm: ∀q∈Q,q.length<=10000)(hf:Q.flatten.find? (fun j=>decide (j.q=T.x.q))=some T.inc):
 Calls Tryz.prog 97 #[.slice A Q.length c,.int .i64 T.x.q] w fun r w'=>r= .returned (.tuple #[.agg #[.int .i64 T.x.q,.int .i64 T.x.b,.int .i64 (yz T.x.c 0),.int .i64 (yp T.x.c),.int .i64 T.wd],.bool true])∧Ext w w':=by
 refine(zfi A c vs Q T.x.q w h hn hm).mono ?_;rintro r w' ⟨rfl,hE⟩;rw[hf];exact⟨rfl,hE⟩
theorem Hv.hit{N B:Nat}{P:Hpl}{I:List In}(hv:Hv N P B I){T:In}(hT:T∈I):P.Q.flatten.find? (fun j=>decide (j.q=T.x.q))=some T.inc:=
 zda (hv.bt.nd hv.vh.hok.lay) (hv.bt.qs.mem_iff.2 (List.mem_map_of_mem hT))
theorem zhp(N B:Nat)(P:Hpl)(M:Hmm)(I:List In)(T:In)(ob:Ob)(t:Nat)(w:World)(h:HO w 0 P M)(hv:Hv N P B I)(hT:T∈I)(hob:ob∈T.obs)(ht:zy T.x.c B ob.o=t):
 Calls Tryz.prog 84 #[.agg (ze P M),.int .i64 t] w fun r w'=>r= .returned (.bool true)∧Ext w w':=by
 have hlay:=hv.vh.hok.lay;have hB8:=hlay.B8;have hpow:=hlay.pow;have hpi:(2:Int)^P.S.sh=(B:Int):=by rw[<-hpow];simp
 have hsh:=hlay.ch.sh;have e5:((P.S.sh:Int)).toNat=P.S.sh:=by omega
 have hin:=hlay.in_ hT hob (k:=0) (by unfold Ob.n;omega);rw[Nat.add_zero]at hin;obtain⟨F,hF,hFo,_,hfl,htl⟩:=vU hlay.ch hpow (hlay.mem hT) hin;rw[ht]at hF hfl htl;have htI:(t:Int)<P.S.ws.length:=by omega
 have e9:decide ((P.S.ws.length:Int)<=t)=false:=decide_eq_false (by omega);have e9':decide (P.S.ws.length<=t)=false:=decide_eq_false (by omega);have e8:decide ((t:Int)<0)=false:=decide_eq_false (by omega);have hg:=hv.gd;have hq1:=hg.sm.q1;have HQ2:=Lib.hid hg.sm.q2;have Hhit:=Lib.hid (hv.hit hT);have Hk:=Lib.hid hv.vh.hok;have HT:=Lib.hid hT;have e4:(t:Int)/(B:Int)=((t/B:Nat):Int):=by simp
 obtain⟨g,hgg⟩: ∃g,t/B=g:=⟨_,rfl⟩;rw[hgg]at hF hfl e4;have gI:(g:Int)<P.S.fs.length:=by omega
 have hwl:=hg.sm.w2;obtain⟨m,hm⟩:=List.mem_iff_getElem?.1 hob
 have hmt:(obA B T.x.c T.obs)[m]? =some t:=by
  unfold obA;rw[List.getElem?_map,hm,Option.map_some,ht]
 have hlo:(obA B T.x.c T.obs).length<=16384:=by
  have h1:=zb1 (hlay.tile T hT);have h2:=zaj T.obs;have h3:=hlay.len hT;simp only[obA,List.length_map];omega
 have Hmt:=Lib.hid hmt;have hml:=(List.getElem?_eq_some_iff.1 hmt).1;clear hlay hpow hin hv hg hgg hm hob hmt;go_enter Tryz.func84,Tryz.ntmps84;go_upto_region 1 with fail;refine yN (fun W k2 hE0=> ?_);obtain⟨b2,hb2⟩: ∃b,w.heap.size=b:=⟨_,rfl⟩;rw[hb2]at k2|-;clear hb2;have hO:=h.ext hE0;obtain⟨bF,oF,he,f0,f1,f2⟩:=jl hO.sp.rd.F hF;simp only[Option.some.injEq,Addr.mk.injEq,and_true]at he;obtain⟨rfl,rfl⟩:=he;simp only[Nat.zero_add]at f0;rw[hFo]at f0;clear f1 f2 hF hFo;have lF:=zh f0;have hbo:=hO.bo;have r3:W.cell? ⟨b2,3,none⟩=some (.int .i64 P.S.sh):=k2.cell 3;have r4:W.cell? ⟨b2,4,none⟩=some (.slice (some ⟨M.gW,0,none⟩) P.S.ws.length M.cW):=k2.cell 4;have r5:W.cell? ⟨b2,5,none⟩=some (.slice (some ⟨M.gF,0,none⟩) P.S.fs.length M.cF):=k2.cell 5;have r6:W.cell? ⟨b2,6,none⟩=some (.slice M.A P.Q.length M.c):=k2.cell 6;have l2:=k2.lt;go_upto_region 3 with fail;go_cut [5,6] (fun s5 s6 wx=> ∃x:Nat,s5= .pointer (some ⟨x,0,none⟩)∧s6= .bool true∧Blk wx x 144 #[.int .i64 T.x.q,.int .i64 T.x.b,.int .i64 (yz T.x.c 0),.int .i64 (yp T.x.c),.int .i64 T.wd]∧Ext W wx)
 case first=>
  refine zn (W.heap.size) [] (.take 0 (.take 1 (.take 2 (.take 3 (.take 4 (.take 5 (.take 6 (.take 7 (.take 8 (.take 9 (.take 10 (.take 11 (.take 12 (.take 13 (.alt 14 (.take 15 (.take 16 (.take 17 (.alt 18 (.alt 19 (.take 20 .done) .none) .none)))) (.alt 18 (.alt 14 (.take 15 (.take 16 (.take 17 (.alt 19 (.take 20 .done) .none)))) .none) .none)))))))))))))))) Tryz.mixed (by kernel_rfl) ?_;intro hx;iterate 14 (first|refine jTN hx ?_|refine jTS ?_)
  refine jCN hx (fun K hK=> ?_) ?_;go_simp;go_at_call 97;refine(zf7 M.A M.c M.vs P.Q T _ (hbo.ext jX) hq1 HQ2.out Hhit.out).mono ?_;rintro e w1 ⟨rfl,hEf⟩;have hzG:W.heap.size<=w1.heap.size:=Nat.le_trans (by simp) hEf.size_le;first|(have k6:=k5.ext hEf;have c5:=k6.cell;have f5:=k6.froz;have l5:=k6.lt)|skip
  refine hK _ _ ((hEf).bel _) ?_;clear hK hx;intro hx;refine jp ?_;iterate 3 (first|refine jTN hx ?_|refine jTS ?_)
  refine jTC (fun K hK=> ?_)
  skip
  go_simp;first|refine hK _ _ jN ?_|refine hK undef _ jN ?_
  clear hK;intro hr;first|(have k5:=zE hr)|(have k5:=zI hr)
  replace hx:=hx.trans hr;clear hr;refine jp ?_;refine yl hx (fun K hK=> ?_);go_simp;refine hK _ jN ?_;clear hK hx;intro hx;first|refine jTN hx ?_|refine jTS ?_
  refine zi ?_;rotate_left;refine jTC (fun K hK=> ?_)
  skip
  go_simp;first|refine hK _ _ jN ?_|refine hK undef _ jN ?_
  clear hK;intro hr;first|(have k5:=zE hr)|(have k5:=zI hr)
  replace hx:=hx.trans hr;clear hr;refine jp ?_;refine jCN hx (fun K hK=> ?_);go_simp;go_at_call 97;refine(zf7 M.A M.c M.vs P.Q T _ (hbo.ext jX) hq1 HQ2.out Hhit.out).mono ?_;rintro e w1 ⟨rfl,hEf⟩;have hzG:W.heap.size<=w1.heap.size:=Nat.le_trans (by simp) hEf.size_le;first|(have k6:=k5.ext hEf;have c5:=k6.cell;have f5:=k6.froz;have l5:=k6.lt)|skip
  refine hK _ _ ((hEf).bel _) ?_;clear hK hx;intro hx;refine jp ?_;iterate 3 (first|refine jTN hx ?_|refine jTS ?_)
  refine yl hx (fun K hK=> ?_);go_simp;refine hK _ jN ?_;clear hK hx;intro hx;first|refine jTN hx ?_|refine jTS ?_
  refine zi ?_;rotate_left
  all_goals
   go_wp2;go_meet
   first
    |(have k7:=k6
      refine⟨W.heap.size,rfl,rfl,((((k7.set_ 0 _).set_ 1 _).set_ 2 _).set_ 3 _).set_ 4 _,yM (Ext.refl W) (zY hx)⟩)
    |(refine⟨w1.heap.size,rfl,rfl,Blk.new rfl,yM (Ext.refl W) (zY hx)⟩)
 case rest=>
  obtain⟨x,rfl,rfl,k5,hE1⟩:=hcut;obtain⟨wa,hwa⟩: ∃wa,wa=wc:=⟨_,rfl⟩;subst hwa;have k2a:=k2.ext hE1;have hOa:=hO.ext hE1;clear r3 r4 r5 r6 l2 f0 lF hbo hO k2;have r3:wa.cell? ⟨b2,3,none⟩=some (.int .i64 P.S.sh):=k2a.cell 3;have r4:wa.cell? ⟨b2,4,none⟩=some (.slice (some ⟨M.gW,0,none⟩) P.S.ws.length M.cW):=k2a.cell 4;have r5:wa.cell? ⟨b2,5,none⟩=some (.slice (some ⟨M.gF,0,none⟩) P.S.fs.length M.cF):=k2a.cell 5;have l2:=k2a.lt;have c5:=k5.cell;have l5:=k5.lt
  have hall:Calls Tryz.prog 98 #[.agg #[.int .i64 P.S.sh,.slice (some ⟨M.gW,0,none⟩) P.S.ws.length M.cW,.slice (some ⟨M.gF,0,none⟩) P.S.fs.length M.cF],.agg #[.int .i64 T.x.q,.int .i64 T.x.b,.int .i64 (yz T.x.c 0),.int .i64 (yp T.x.c),.int .i64 T.wd]] wa (zho wa (obA B T.x.c T.obs)):=
   zkn (some ⟨M.gW,0,none⟩) (some ⟨M.gF,0,none⟩) M.cW M.cF P.S I T B wa hOa.sp.rd Hk.out HT.out
  go_wp2_with fail;go_at_call 98;refine hall.mono ?_;rintro e w2 ⟨D,c,rfl,hown,hE2⟩;clear hall r3 r4 r5 l2 c5 l5;have hEw:=(hE0.trans hE1).trans hE2;go_wp2_with fail;go_loopw [50] (fun i wr=> ∃k:Nat,k<=m∧i= .int .i64 k∧Ext w2 wr) (fun i _=>m-(intOf i).toNat);case atStart=>exact⟨0,by omega,rfl,Ext.refl _⟩
  case round=>
   obtain⟨k,hk,rfl,hE⟩:=hrel;have hkl:k<(obA B T.x.c T.obs).length:=by omega
   have hdec:decide ((k:Int)<(obA B T.x.c T.obs).length)=true:=by simp;omega
   have hdec':decide (k<(obA B T.x.c T.obs).length)=true:=by simp;omega
   have hkI:(k:Int)<(obA B T.x.c T.obs).length:=by omega
   obtain⟨x,hx⟩: ∃x,(obA B T.x.c T.obs)[k]? =some x:=⟨_,List.getElem?_eq_getElem hkl⟩;obtain⟨bD,oD,rfl,c0⟩:=zb0 (Rd.of_own (zm hown hE)) hx;have l0:=zh c0;by_cases hxt:x=t
   ·have q1:((x:Int)==(t:Int))=true:=by rw[beq_iff_eq];omega
    have q2:(x==t)=true:=by rw[beq_iff_eq];exact hxt
    clear hxt hx;go_wp2_with fail;go_ret;exact⟨rfl,hEw.trans hE⟩
   ·have q1:((x:Int)==(t:Int))=false:=by rw[beq_eq_false_iff_ne];omega
    have q2:(x==t)=false:=by rw[beq_eq_false_iff_ne];exact hxt
    have hkm:k<m:=by
     rcases Nat.lt_or_ge k m with h1|h1
     ·exact h1
     ·have:k=m:=by omega
      rw[this,Hmt.out]at hx;injection hx with hx;exact absurd hx.symm hxt
    clear hxt hx;go_wp2_with fail;go_roundw;case rel=>exact⟨k+1,by omega,by go_num,hE⟩
    case measure=>simp[intOf];omega
section
variable{S:Sp} {B:Nat} {I:List In} {sets sets':List St} {u:List Bool} {r:List Int}
theorem zf8(S:Sp)(t s:Nat)(v:Int)(ht:t<S.ws.length):(⟨S.sh,S.ws.set t v,S.fs⟩:Sp).w s=if s=t then v else S.w s:=by
 unfold Sp.w;rw[List.getD_eq_getElem?_getD,List.getD_eq_getElem?_getD];show((S.ws.set t v)[s]?).getD 0=_;by_cases h:s=t
 ·subst h
  rw[List.getElem?_set_self ht,if_pos rfl];rfl
 ·rw[List.getElem?_set_ne (fun e=>h e.symm),if_neg h]
theorem Hok.write(h:Hok S B I){T:In}(hT:T∈I){ob:Ob}(hob:ob∈T.obs){k:Nat}(hk:1<=k∧k<ob.n){v:Int}(hv:k<=ob.r->Ptr (aos B I) v):
 Hok ⟨S.sh,S.ws.set ((zZ B T.x.c ob).f k) v,S.fs⟩ B I∧(zZ B T.x.c ob).f k<S.ws.length:=by
 have hl:=h.lay;have hin:=hl.in_ hT hob hk.2;have hf:(zZ B T.x.c ob).f k=zy T.x.c B (ob.o+k):=yn hk.2;obtain⟨hlt,hch⟩:=Chs.word hl.ch (hl.mem hT) hl.pow hin v;rw[<-hf]at hlt hch;have ho:zZ B T.x.c ob∈aos B I:=zK.2 ⟨T,hT,ob,hob,rfl⟩;refine⟨⟨⟨hl.pow,hch,hl.fit,hl.tile⟩,fun o ho'=> ?_,fun o ho' e he=> ?_⟩,hlt⟩
 ·obtain⟨a1,a2,a3⟩:=h.head o ho'
  refine⟨a1,a2,?_⟩;rw[zf8 S _ _ v hlt,if_neg,a3];intro e;have:=(hl.apart o ho' _ ho 0 k (by unfold AO.n;omega) hk.2 e).2;omega
 ·rw[zf8 S _ _ v hlt]
  split
  ·rename_i e1
   obtain⟨e2,e3⟩:=hl.apart o ho' _ ho (1+e) k (by unfold AO.n;omega) hk.2 e1;subst e2;have he':e<ob.r:=he;exact hv (by omega)
  ·exact h.refs o ho' e he
theorem Vh.write(h:Vh S B I sets u r){T:In}(hT:T∈I){ob:Ob}(hob:ob∈T.obs){e0:Nat}(he0:e0<ob.r){v:Int}(hv:Ptr (aos B I) v)(hw:WfS sets')
 (hn: ∀f g s,inS sets' f g s↔inS sets f g s∨(s=(zZ B T.x.c ob).f (1+e0)∧zev ⟨S.sh,S.ws.set ((zZ B T.x.c ob).f (1+e0)) v,S.fs⟩ B ((zZ B T.x.c ob).f (1+e0)) f g)):
 Vh ⟨S.sh,S.ws.set ((zZ B T.x.c ob).f (1+e0)) v,S.fs⟩ B I sets' u r:=by
 have hk:1<=1+e0∧1+e0<ob.n:=by unfold Ob.n;omega
 obtain⟨hok,hlt⟩:=h.hok.write hT hob hk (fun _=>hv);have hl:=h.hok.lay;have ho:zZ B T.x.c ob∈aos B I:=zK.2 ⟨T,hT,ob,hob,rfl⟩;refine⟨hok,h.rt,fun x hx=>⟨(hw.2 x hx).1,(hw.2 x hx).2.1⟩,fun x hx s hs=> ?_,?_⟩
 ·rcases(hn x.f x.g s).1 ⟨x,hx,rfl,rfl,hs⟩with⟨y,hy,hyf,_,hys⟩|⟨rfl,a,F,G,_,_,_,hf,_⟩
  ·obtain⟨o,ho',e,he,e1,e2⟩:=h.ss y hy s hys
   exact⟨o,ho',e,he,e1,by rw[<-hyf];exact e2⟩
  ·exact⟨_,ho,e0,he0,rfl,hf⟩
 ·intro i hi b hb j hj b' hb' e he hv' hst
  rw[hn];have hob':zZ B i.x.c b∈aos B I:=zK.2 ⟨i,hi,b,hb,rfl⟩;have hbn:1+e<b.n:=by unfold Ob.n;omega
  by_cases hs:(zZ B i.x.c b).f (1+e)=(zZ B T.x.c ob).f (1+e0)
  ·right
   refine⟨hs,?_⟩;obtain⟨F,hF,hFo,hFs,_,hFl⟩:=hl.owner hi hb hbn;obtain⟨G,hG,hGo,hGs,_,hGl⟩:=hl.owner hj hb' (k:=0) (by unfold Ob.n;omega);have h1:=(hl.ch.ids i.x (hl.mem hi)).1;have h2:=(hl.ch.ids j.x (hl.mem hj)).1;rw[hs]at hv' hF|-;exact⟨(zZ B j.x.c b').f 0,F,G,hv',by show _<(S.ws.set _ _).length;rw[List.length_set];exact hGl,by show _<(S.ws.set _ _).length;rw[List.length_set];exact hlt,rfl,rfl,hF,hG,by omega,by omega,by omega⟩
  ·left
   rw[zf8 S _ _ v hlt,if_neg hs]at hv';exact h.cs i hi b hb j hj b' hb' e he hv' hst
theorem Vh.writeD(h:Vh S B I sets u r){T:In}(hT:T∈I){ob:Ob}(hob:ob∈T.obs){e0:Nat}(he0:e0<ob.d)(v:Int):
 Vh ⟨S.sh,S.ws.set ((zZ B T.x.c ob).f (1+ob.r+e0)) v,S.fs⟩ B I sets u r:=by
 have hk:1<=1+ob.r+e0∧1+ob.r+e0<ob.n:=by unfold Ob.n;omega
 obtain⟨hok,hlt⟩:=h.hok.write hT hob hk (v:=v) (fun _=>by omega);have hl:=h.hok.lay;have ho:zZ B T.x.c ob∈aos B I:=zK.2 ⟨T,hT,ob,hob,rfl⟩;refine⟨hok,h.rt,h.bd,h.ss,?_⟩;intro i hi b hb j hj b' hb' e he hv' hst;have hob':zZ B i.x.c b∈aos B I:=zK.2 ⟨i,hi,b,hb,rfl⟩;have hbn:1+e<b.n:=by unfold Ob.n;omega
 rw[zf8 S _ _ v hlt,if_neg]at hv'
 ·exact h.cs i hi b hb j hj b' hb' e he hv' hst
 ·intro e1
  obtain⟨e2,e3⟩:=hl.apart _ hob' _ ho (1+e) _ hbn hk.2 e1;have:b.r=ob.r:=congrArg AO.r e2;omega
theorem Vh.take(h:Vh S B I sets u r){k:Nat}{o:AO}(ho:o∈aos B I):Vh S B I sets (u.set k true) (r.set k ((o.f 0:Int)+1)):=by
 refine⟨h.hok,⟨by rw[List.length_set];exact h.rt.1,by rw[List.length_set];exact h.rt.2.1,fun j b v hb hv=> ?_⟩,h.bd,h.ss,h.cs⟩;by_cases hj:k=j
 ·subst hj
  have h1:=(List.getElem?_eq_some_iff.1 hb).1;have h2:=(List.getElem?_eq_some_iff.1 hv).1;rw[List.length_set]at h1 h2;rw[List.getElem?_set_self h1]at hb;rw[List.getElem?_set_self h2]at hv;injection hb with hb;injection hv with hv;exact⟨fun e=>(by rw[<-hb]at e;cases e),fun _=>⟨o,ho,hv.symm⟩⟩
 ·rw[List.getElem?_set_ne hj]at hb hv
  exact h.rt.2.2 j b v hb hv
theorem Vh.drop(h:Vh S B I sets u r){k:Nat}:Vh S B I sets (u.set k false) (r.set k 0):=by
 refine⟨h.hok,⟨by rw[List.length_set];exact h.rt.1,by rw[List.length_set];exact h.rt.2.1,fun j b v hb hv=> ?_⟩,h.bd,h.ss,h.cs⟩;by_cases hj:k=j
 ·subst hj
  have h1:=(List.getElem?_eq_some_iff.1 hb).1;have h2:=(List.getElem?_eq_some_iff.1 hv).1;rw[List.length_set]at h1 h2;rw[List.getElem?_set_self h1]at hb;rw[List.getElem?_set_self h2]at hv;injection hb with hb;injection hv with hv;exact⟨fun _=>hv.symm,fun e=>(by rw[<-hb]at e;cases e)⟩
 ·rw[List.getElem?_set_ne hj]at hb hv
  exact h.rt.2.2 j b v hb hv
theorem Vh.rok(h:Vh S B I sets u r):zmi u r:=by
 refine⟨h.rt.1,h.rt.2.1,fun k hk=> ?_⟩
 have hl:k<r.length:=by
  have:=(List.getElem?_eq_some_iff.1 hk).1;rw[h.rt.2.1,<-h.rt.1];exact this
 have:=(h.rt.2.2 k false (r[k]) hk (List.getElem?_eq_getElem hl)).1 rfl;rw[List.getElem?_eq_getElem hl,this]
theorem Vh.obj(h:Vh S B I sets u r){k:Nat}(hk:u[k]? =some true): ∃(T:In) (ob:Ob),T∈I∧ob∈T.obs∧r[k]? =some ((zy T.x.c B ob.o:Nat)+1:Int):=by
 have hl:k<r.length:=by
  have:=(List.getElem?_eq_some_iff.1 hk).1;rw[h.rt.2.1,<-h.rt.1];exact this
 obtain⟨o,ho,e⟩:=(h.rt.2.2 k true (r[k]) hk (List.getElem?_eq_getElem hl)).2 rfl;obtain⟨T,hT,ob,hob,rfl⟩:=zK.1 ho;refine⟨T,ob,hT,hob,?_⟩;rw[List.getElem?_eq_getElem hl,e,yn (b:=ob) (k:=0) (by unfold Ob.n;omega)];rfl
end
theorem zko(A Bf:Option Addr)(a b:Nat)(S:Sp)(L:List Ch)(x:Ch)(B p r d:Nat)(i:Int)(w:World)(h:SRd w S A Bf)(hS:Chs S L)(hx:x∈L)(hB:2^S.sh=B)(hp:p+(r+d)<x.c.length*B)(hr:r<=15)(hd':d<=32)(hh:S.ws[zy x.c B p]? =some (hd r d))(hi:i<0∨(r:Int)<=i):
 Calls Tryz.prog 67 #[spV S A a Bf b,.int .i64 (zy x.c B p:Nat),.int .i64 i,.bool true] w fun e w'=>e= .returned (.tuple #[.int .i64 0,.int .i64 17])∧Ext w w':=by
 have hl:=qU A Bf a b S L x B p r d;unfold spV at hl|-;obtain⟨t,ht⟩: ∃t,zy x.c B p=t:=⟨_,rfl⟩;rw[ht]at hh hl|-;have HS:=Lib.hid hS;have HB:=Lib.hid hB;have Hh:=Lib.hid hh;have Hl:=Lib.hid hl;have Hi:=Lib.hid hi;clear ht hS hB hh hl;go_enter Tryz.func67,Tryz.ntmps67;have hE0:=Ext.alloc (Ext.refl w) (.cells #[.int .i64 S.sh,.slice A S.ws.length a,.slice Bf S.fs.length b] 29);have kS:Blk (w.alloc (.cells #[.int .i64 S.sh,.slice A S.ws.length a,.slice Bf S.fs.length b] 29)) w.heap.size 29 #[.int .i64 S.sh,.slice A S.ws.length a,.slice Bf S.fs.length b]:=Blk.new rfl;go_upto_region 1 with fail;have h1:=h.ext hE0;generalize w.alloc (.cells #[.int .i64 S.sh,.slice A S.ws.length a,.slice Bf S.fs.length b] 29)=W at*;generalize w.heap.size=gS at*;have cS:=kS.cell;have lS:=kS.lt;go_wp2_with fail;go_at_call 41;refine(Hl.out W h1 HS.out hx HB.out hp hr hd' Hh.out).mono ?_;rintro e w1 ⟨rfl,hE1⟩;clear cS lS hi;have hE01:=hE0.trans hE1;rcases Hi.out with h0|h0
 ·have d0:decide (i<0)=true:=decide_eq_true h0
  go_wp2_with fail;refine bodyPost_ret (v:= .tuple #[.int .i64 0,.int .i64 17]) (by simp[results,Tryz.results67,go_sem]) rfl ?_;exact⟨rfl,hE01⟩
 ·have d1:decide ((r:Int)<=i)=true:=decide_eq_true h0
  have d0:decide (i<0)=false:=decide_eq_false (by omega);go_wp2_with fail;refine bodyPost_ret (v:= .tuple #[.int .i64 0,.int .i64 17]) (by simp[results,Tryz.results67,go_sem]) rfl ?_;exact⟨rfl,hE01⟩
theorem zhq(A Bf:Option Addr)(a b:Nat)(S:Sp)(L:List Ch)(x:Ch)(B p r d:Nat)(i:Int)(w:World)(h:SRd w S A Bf)(hS:Chs S L)(hx:x∈L)(hB:2^S.sh=B)(hp:p+(r+d)<x.c.length*B)(hr:r<=15)(hd':d<=32)(hh:S.ws[zy x.c B p]? =some (hd r d))(hi:i<0∨(d:Int)<=i):
 Calls Tryz.prog 67 #[spV S A a Bf b,.int .i64 (zy x.c B p:Nat),.int .i64 i,.bool false] w fun e w'=>e= .returned (.tuple #[.int .i64 0,.int .i64 17])∧Ext w w':=by
 have hl:=qU A Bf a b S L x B p r d;unfold spV at hl|-;obtain⟨t,ht⟩: ∃t,zy x.c B p=t:=⟨_,rfl⟩;rw[ht]at hh hl|-;have HS:=Lib.hid hS;have HB:=Lib.hid hB;have Hh:=Lib.hid hh;have Hl:=Lib.hid hl;have Hi:=Lib.hid hi;clear ht hS hB hh hl;go_enter Tryz.func67,Tryz.ntmps67;have hE0:=Ext.alloc (Ext.refl w) (.cells #[.int .i64 S.sh,.slice A S.ws.length a,.slice Bf S.fs.length b] 29);have kS:Blk (w.alloc (.cells #[.int .i64 S.sh,.slice A S.ws.length a,.slice Bf S.fs.length b] 29)) w.heap.size 29 #[.int .i64 S.sh,.slice A S.ws.length a,.slice Bf S.fs.length b]:=Blk.new rfl;go_upto_region 1 with fail;have h1:=h.ext hE0;generalize w.alloc (.cells #[.int .i64 S.sh,.slice A S.ws.length a,.slice Bf S.fs.length b] 29)=W at*;generalize w.heap.size=gS at*;have cS:=kS.cell;have lS:=kS.lt;go_wp2_with fail;go_at_call 41;refine(Hl.out W h1 HS.out hx HB.out hp hr hd' Hh.out).mono ?_;rintro e w1 ⟨rfl,hE1⟩;clear cS lS hi;have hE01:=hE0.trans hE1;rcases Hi.out with h0|h0
 ·have d0:decide (i<0)=true:=decide_eq_true h0
  go_wp2_with fail;refine bodyPost_ret (v:= .tuple #[.int .i64 0,.int .i64 17]) (by simp[results,Tryz.results67,go_sem]) rfl ?_;exact⟨rfl,hE01⟩
 ·have d1:decide ((d:Int)<=i)=true:=decide_eq_true h0
  have d0:decide (i<0)=false:=decide_eq_false (by omega);go_wp2_with fail;refine bodyPost_ret (v:= .tuple #[.int .i64 0,.int .i64 17]) (by simp[results,Tryz.results67,go_sem]) rfl ?_;exact⟨rfl,hE01⟩
theorem kE{S:Sp}{B:Nat}{I:List In}(h:Hok S B I){T:In}(hT:T∈I){ob:Ob}(hob:ob∈T.obs):ob.r<=15∧ob.d<=32∧S.ws[zy T.x.c B ob.o]? =some (hd ob.r ob.d)∧ob.o+(ob.r+ob.d)<T.x.c.length*B:=by
 have hin:=h.lay.in_ hT hob (k:=0) (by unfold Ob.n;omega);have hin2:=h.lay.in_ hT hob (k:=ob.r+ob.d) (by unfold Ob.n;omega);obtain⟨_,_,_,_,_,hlt⟩:=vU h.lay.ch h.lay.pow (h.lay.mem hT) hin;obtain⟨h1,h2,h3⟩:=h.head _ (zK.2 ⟨T,hT,ob,hob,rfl⟩);rw[Nat.add_zero]at hlt;rw[yn (show 0<ob.n by unfold Ob.n;omega),Nat.add_zero]at h3;refine⟨h1,h2,?_,hin2⟩;rw[List.getElem?_eq_getElem hlt,Option.some.injEq];rw[<-show(zZ B T.x.c ob).r=ob.r from rfl,<-show(zZ B T.x.c ob).d=ob.d from rfl,<-h3];unfold Sp.w;rw[List.getD_eq_getElem?_getD,List.getElem?_eq_getElem hlt];rfl
attribute [local go_sem↓] yg qW xd yx in
attribute [local go_sem] xe in
theorem zf9(N B:Nat)(P:Hpl)(M:Hmm)(I:List In)(T:In)(ob:Ob)(t i:Nat)(w:World)(h:HO w 0 P M)(hv:Hv N P B I)(hT:T∈I)(hob:ob∈T.obs)(ht:zy T.x.c B ob.o=t)(hdead:P.dead=false)(hi:i<ob.r):
 Calls Tryz.prog 83 #[.agg (ze P M),.int .i64 t,.int .i64 i,.bool true] w (vk w (zy T.x.c B (ob.o+(1+i)))):=by
 obtain⟨hr,hd',hh,hp⟩:=kE hv.vh.hok hT hob;have hlay:=hv.vh.hok.lay;obtain⟨x,hx⟩: ∃x,zy T.x.c B (ob.o+(1+i))=x:=⟨_,rfl⟩;have hpl:=fun(w':World) (hE:Ext w w')=>zbm (some ⟨M.gW,0,none⟩) (some ⟨M.gF,0,none⟩) M.cW M.cF P.S (I.map (·.x)) T.x B ob.o ob.r ob.d i w' (h.ext hE).sp.rd hlay.ch (hlay.mem hT) hlay.pow hp hr hd' hh hi
 have his:=fun(w':World) (hE:Ext w w')=>zhp N B P M I T ob t w' (h.ext hE) hv hT hob ht
 unfold spV at hpl;rw[ht,hx]at hpl;rw[hx];clear hr hd' hh hp hlay hx hv hi ht;go_enter Tryz.func83,Tryz.ntmps83;go_upto_region 1 with fail;refine yN (fun W k4 hE0=> ?_);obtain⟨b4,hb4⟩: ∃b,w.heap.size=b:=⟨_,rfl⟩;rw[hb4]at k4|-;clear hb4;have r21:W.cell? ⟨b4,21,none⟩=some (.bool false):=by have:=k4.cell 21;rw[this,<-hdead];rfl
 have l4:=k4.lt;have hlc:=zj k4 (za P M);have his1:=his W hE0;clear his hdead;go_wp2_with fail;go_at_call 84;refine his1.mono ?_;rintro e w1 ⟨rfl,hE1⟩;clear his1 hlc r21 l4;have k5:=k4.ext hE1;have hls:=yd k5 3 3 _ rfl (yH P M);have l5:=k5.lt;have hE:=hE0.trans hE1;have hp1:=hpl w1 hE;clear hpl;go_wp2_with fail;go_at_call 67;refine hp1.mono ?_;rintro e w2 ⟨rfl,hE2⟩;clear hp1 hls l5;go_wp2_with fail;refine bodyPost_ret (v:= .tuple #[.int .i64 (x:Int),.int .i64 0]) (by simp[results,Tryz.results83,go_sem]) rfl ?_;exact⟨rfl,hE.trans hE2⟩
attribute [local go_sem↓] yg qW xd yx in
attribute [local go_sem] xe in
theorem zd8(N B:Nat)(P:Hpl)(M:Hmm)(I:List In)(T:In)(ob:Ob)(t i:Nat)(w:World)(h:HO w 0 P M)(hv:Hv N P B I)(hT:T∈I)(hob:ob∈T.obs)(ht:zy T.x.c B ob.o=t)(hdead:P.dead=false)(hi:i<ob.d):
 Calls Tryz.prog 83 #[.agg (ze P M),.int .i64 t,.int .i64 i,.bool false] w (vk w (zy T.x.c B (ob.o+((1+ob.r)+i)))):=by
 obtain⟨hr,hd',hh,hp⟩:=kE hv.vh.hok hT hob;have hlay:=hv.vh.hok.lay;obtain⟨x,hx⟩: ∃x,zy T.x.c B (ob.o+((1+ob.r)+i))=x:=⟨_,rfl⟩;have hpl:=fun(w':World) (hE:Ext w w')=>zat (some ⟨M.gW,0,none⟩) (some ⟨M.gF,0,none⟩) M.cW M.cF P.S (I.map (·.x)) T.x B ob.o ob.r ob.d i w' (h.ext hE).sp.rd hlay.ch (hlay.mem hT) hlay.pow hp hr hd' hh hi
 have his:=fun(w':World) (hE:Ext w w')=>zhp N B P M I T ob t w' (h.ext hE) hv hT hob ht
 unfold spV at hpl;rw[ht,hx]at hpl;rw[hx];clear hr hd' hh hp hlay hx hv hi ht;go_enter Tryz.func83,Tryz.ntmps83;go_upto_region 1 with fail;refine yN (fun W k4 hE0=> ?_);obtain⟨b4,hb4⟩: ∃b,w.heap.size=b:=⟨_,rfl⟩;rw[hb4]at k4|-;clear hb4;have r21:W.cell? ⟨b4,21,none⟩=some (.bool false):=by have:=k4.cell 21;rw[this,<-hdead];rfl
 have l4:=k4.lt;have hlc:=zj k4 (za P M);have his1:=his W hE0;clear his hdead;go_wp2_with fail;go_at_call 84;refine his1.mono ?_;rintro e w1 ⟨rfl,hE1⟩;clear his1 hlc r21 l4;have k5:=k4.ext hE1;have hls:=yd k5 3 3 _ rfl (yH P M);have l5:=k5.lt;have hE:=hE0.trans hE1;have hp1:=hpl w1 hE;clear hpl;go_wp2_with fail;go_at_call 67;refine hp1.mono ?_;rintro e w2 ⟨rfl,hE2⟩;clear hp1 hls l5;go_wp2_with fail;refine bodyPost_ret (v:= .tuple #[.int .i64 (x:Int),.int .i64 0]) (by simp[results,Tryz.results83,go_sem]) rfl ?_;exact⟨rfl,hE.trans hE2⟩
end Go.Proofs.YtopcdfbplknmlaaGreat
