/- Part of the proof of the claim: walks and plain laws; each theorem states its own conditions. -/
import Derived.Test.YtopcdfbplknmlaaGreatL
import Derived.Test.YtopcdfbplknmlaaGreatG3
import Derived.Laws.StructEq
set_option linter.all false
set_option maxHeartbeats 4000000
set_option maxRecDepth 100000
namespace Go.Proofs.YtopcdfbplknmlaaGreat
open Go.RowKit Go.Draw
theorem Chs.own_iff{S:Sp}{L:List Ch}{x:Ch}(h:Chs S (x::L)){k:Nat}{F:Fr}(hF:S.fs[k]? =some F):F.o=x.q↔k∈x.c:=by
 have hx0:=(h.ids x List.mem_cons_self).1;rcases h.cases hF with⟨rfl,hu⟩|⟨y,hy,p,hp,rfl⟩
 ·constructor
  ·intro e
   simp only[qS]at e;omega
  ·intro hk
   obtain⟨p,hp⟩:=List.mem_iff_getElem?.1 hk;exact absurd (xu.2 ⟨x,List.mem_cons_self,p,hp⟩) hu
 ·constructor
  ·intro e
   have:y=x:=h.same hy List.mem_cons_self e;subst this;exact List.mem_of_getElem? hp
  ·intro hk
   have:=jK h.nd hy List.mem_cons_self (List.mem_of_getElem? hp) hk;rw[this]
def zr(ws:List Int)(a:Nat):Nat->List Int
 |0=>ws
 |n+1=>(zr ws a n).set (a+n) 0
theorem zdw(ws:List Int)(a:Nat): ∀n,(zr ws a n).length=ws.length
 |0=>rfl
 |n+1=>by rw[zr,List.length_set,zdw ws a n]
theorem zqb(ws:List Int)(a:Nat): ∀(n j:Nat),j<n->a+n<=ws.length->(zr ws a n)[a+j]? =some 0
 |0,j,h,_=>by omega
 |n+1,j,h,hl=>by
  rw[zr];by_cases e:j=n
  ·subst e
   rw[List.getElem?_set_self];rw[zdw];omega
  ·rw[List.getElem?_set_ne (by omega)]
   exact zqb ws a n j (by omega) (by omega)
theorem zg1(ws:List Int)(a:Nat): ∀(n t:Nat),(t<a∨a+n<=t) ->(zr ws a n)[t]? =ws[t]?
 |0,t,h=>rfl
 |n+1,t,h=>by
  rw[zr,List.getElem?_set_ne (by omega)];exact zg1 ws a n t (by omega)
theorem SOw.frame{w:World}{base gW cW gF cF:Nat}{S:Sp}(h:SOw w base S gW cW gF cF)(k:Nat)(F:Fr):
 SOw (((w.setCell ⟨gF,k*3,none⟩ (.int .i64 F.o)).setCell ⟨gF,k*3+1,none⟩ (.int .i64 F.s)).setCell ⟨gF,k*3+2,none⟩ (.int .i64 F.n)) base ⟨S.sh,S.ws,S.fs.set k F⟩ gW cW gF cF:=by
 have q1:=yv (yv (yv h.F (k*3) (.int .i64 F.o)) (k*3+1) (.int .i64 F.s)) (k*3+2) (.int .i64 F.n);rw[<-za4 S.fs k F]at q1;have q2:=yf (yf (yf h.W (p:=⟨gF,k*3,none⟩) h.ne (.int .i64 F.o)) (p:=⟨gF,k*3+1,none⟩) h.ne (.int .i64 F.s)) (p:=⟨gF,k*3+2,none⟩) h.ne (.int .i64 F.n);refine⟨q2,?_⟩;simpa only[List.length_set]using q1
structure ClI(S:Sp)(c:List Nat)(B k:Nat)(fs:List Fr)(ws:List Int):Prop where
 fl:fs.length=S.fs.length
 wl:ws.length=S.ws.length
 f1: ∀f∈c,f<k->fs[f]? =some qS
 f2: ∀f,(f∉c∨k<=f) ->fs[f]? =S.fs[f]?
 w1: ∀f∈c,f<k-> ∀j,j<B->ws[f*B+j]? =some 0
 w2: ∀t,(t/B∉c∨k<=t/B) ->ws[t]? =S.ws[t]?
theorem ClI.start(S:Sp)(c:List Nat)(B:Nat):ClI S c B 0 S.fs S.ws:=⟨rfl,rfl,fun _ _ h=>by omega,fun _ _=>rfl,fun _ _ h=>by omega,fun _ _=>rfl⟩
theorem ClI.skip{S:Sp}{c:List Nat}{B k:Nat}{fs:List Fr}{ws:List Int}(h:ClI S c B k fs ws)(hk:k∉c):ClI S c B (k+1) fs ws:=by
 have ne_lt: ∀{f:Nat},f∈c->f<k+1->f<k:=fun{f} hf hl=>by
  rcases Nat.lt_or_ge f k with hh|hh
  ·exact hh
  ·obtain rfl:f=k:=by omega
   exact absurd hf hk
 refine⟨h.fl,h.wl,fun f hf hl=> ?_,fun f hf=> ?_,fun f hf hl=> ?_,fun t ht=> ?_⟩
 ·exact h.f1 f hf (ne_lt hf hl)
 ·refine h.f2 f ?_
  rcases hf with hf|hf
  ·exact .inl hf
  ·exact .inr (by omega)
 ·exact h.w1 f hf (ne_lt hf hl)
 ·refine h.w2 t ?_
  rcases ht with ht|ht
  ·exact .inl ht
  ·exact .inr (by omega)
theorem ClI.step{S:Sp}{c:List Nat}{B k:Nat}{fs:List Fr}{ws:List Int}(h:ClI S c B k fs ws)(hB:0<B)(hk:k∈c)(hl:k<S.fs.length)(hw:k*B+B<=S.ws.length):ClI S c B (k+1) (fs.set k qS) (zr ws (k*B) B):=by
 have hkl:k<fs.length:=by rw[h.fl];exact hl
 have hwl:k*B+B<=ws.length:=by rw[h.wl];exact hw
 have hd: ∀t,t/B≠k->t<k*B∨k*B+B<=t:=fun t ht=>by
  have h1:=Nat.div_add_mod t B;have h2:=Nat.mod_lt t hB;rcases Nat.lt_or_ge (t/B) k with hh|hh
  ·left
   have:(t/B+1)*B<=k*B:=Nat.mul_le_mul_right _ hh;rw[Nat.succ_mul,Nat.mul_comm (t/B)]at this;omega
  ·right
   have h3:(k+1)*B<=t/B*B:=Nat.mul_le_mul_right _ (by omega);rw[Nat.succ_mul,Nat.mul_comm (t/B)]at h3;omega
 refine⟨by rw[List.length_set];exact h.fl,by rw[zdw];exact h.wl,fun f hf hlt=> ?_,fun f hf=> ?_,fun f hf hlt j hj=> ?_,fun t ht=> ?_⟩
 ·by_cases e:f=k
  ·subst e
   rw[List.getElem?_set_self hkl]
  ·rw[List.getElem?_set_ne (by omega)]
   exact h.f1 f hf (by omega)
 ·have hne:f≠k:=by rintro rfl;rcases hf with hf|hf;exact hf hk;omega
  rw[List.getElem?_set_ne (by omega)];refine h.f2 f ?_;rcases hf with hf|hf
  ·exact .inl hf
  ·exact .inr (by omega)
 ·by_cases e:f=k
  ·subst e
   exact zqb ws (f*B) B j hj hwl
  ·rw[zg1]
   ·exact h.w1 f hf (by omega) j hj
   ·refine hd _ ?_
    rw[Nat.add_comm,Nat.add_mul_div_right _ _ hB,Nat.div_eq_of_lt hj];omega
 ·have hne:t/B≠k:=fun e=>by rcases ht with ht|ht;rw[e]at ht;exact ht hk;omega
  rw[zg1 _ _ _ _ (hd t hne)];refine h.w2 t ?_;rcases ht with ht|ht
  ·exact .inl ht
  ·exact .inr (by omega)
theorem ClI.chs{S:Sp}{x:Ch}{L:List Ch}{B k:Nat}{fs:List Fr}{ws:List Int}(h:ClI S x.c B k fs ws)(hS:Chs S (x::L))(hB:2^S.sh=B)(hk:S.fs.length<=k):Chs ⟨S.sh,ws,fs⟩ L:=by
 have hlt: ∀f∈x.c,f<S.fs.length:=fun f hf=>by
  obtain⟨p,hp⟩:=List.mem_iff_getElem?.1 hf;exact hS.lt List.mem_cons_self hp
 have hb1:=(yG hS.sh).1;refine hS.clear h.fl h.wl (fun f hf=>h.f1 f hf (by have:=hlt f hf;omega)) (fun f hf=>h.f2 f (.inl hf)) (fun f hf j hj=> ?_) (fun f _ hf j hj=> ?_)
 ·rw[hB]at hj|-
  exact h.w1 f hf (by have:=hlt f hf;omega) j hj
 ·refine h.w2 _ (.inl ?_)
  rw[hB]at hj|-;rw[Nat.add_comm,Nat.add_mul_div_right _ _ (by omega),Nat.div_eq_of_lt hj,Nat.zero_add];exact hf
def zlz(w:World)(base gW cW gF cF:Nat)(S:Sp)(x:Ch)(B:Nat)(r:Ending)(w':World):Prop:=
 ∃(fs:List Fr) (ws:List Int) (n:Nat),r= .returned (.int .i64 n)∧ClI S x.c B S.fs.length fs ws∧SOw w' base ⟨S.sh,ws,fs⟩ gW cW gF cF∧But [gW,gF] w w'
theorem zjt(gW cW gF cF base:Nat)(S:Sp)(L:List Ch)(x:Ch)(B:Nat)(w:World)(h:SOw w base S gW cW gF cF)(hS:Chs S (x::L))(hB:2^S.sh=B):
 Calls Tryz.prog 113 #[spV S (some ⟨gW,0,none⟩) cW (some ⟨gF,0,none⟩) cF,.int .i64 x.q] w (zlz w base gW cW gF cF S x B):=by
 have hb1:=(yG hS.sh).1;have hb2:=(yG hS.sh).2;have hwl:=hS.wl;rw[hB]at hb1 hb2 hwl;obtain⟨hn1,hn2⟩:=hS.n2;have hfB:S.fs.length*B<=64*256:=Nat.mul_le_mul (by omega) hb2;have hwS:S.ws.length<=20000:=by omega
 have hB':(2:Int)^S.sh=B:=by rw[<-hB];simp
 have s1:(S.sh:Int).toNat=S.sh:=by omega
 have hlt:=h.lt;have hsh:=hS.sh;have HS:=Lib.hid hS;have HB:=Lib.hid hB;have Hwl:=Lib.hid hwl;clear hS hB hwl;unfold spV;go_enter Tryz.func113,Tryz.ntmps113;go_upto_region 2 with fail;have kS:Blk (w.alloc (.cells #[.int .i64 S.sh,.slice (some ⟨gW,0,none⟩) S.ws.length cW,.slice (some ⟨gF,0,none⟩) S.fs.length cF] 29)) w.heap.size 29 #[.int .i64 S.sh,.slice (some ⟨gW,0,none⟩) S.ws.length cW,.slice (some ⟨gF,0,none⟩) S.fs.length cF]:=Blk.new rfl;have hE0:Ext w (w.alloc (.cells #[.int .i64 S.sh,.slice (some ⟨gW,0,none⟩) S.ws.length cW,.slice (some ⟨gF,0,none⟩) S.fs.length cF] 29)):=by exact jX
 generalize w.alloc (.cells #[.int .i64 S.sh,.slice (some ⟨gW,0,none⟩) S.ws.length cW,.slice (some ⟨gF,0,none⟩) S.fs.length cF] 29)=W at kS hE0|-;obtain⟨b0,hb0⟩: ∃b0,w.heap.size=b0:=⟨_,rfl⟩;rw[hb0]at kS|-;have hg1:b0≠gW:=by omega
 have hg2:b0≠gF:=by omega
 clear hb0;have cS:=kS.cell;have lS:=kS.lt;go_wp2_with fail;go_loopw [5,12] (fun m i wr=> ∃(k n:Nat) (fs:List Fr) (ws:List Int),k<=S.fs.length∧n<=k∧m= .int .i64 n∧i= .int .i64 k∧ClI S x.c B k fs ws∧SOw wr base ⟨S.sh,ws,fs⟩ gW cW gF cF∧But [gW,gF] w wr∧Blk wr b0 29 #[.int .i64 S.sh,.slice (some ⟨gW,0,none⟩) S.ws.length cW,.slice (some ⟨gF,0,none⟩) S.fs.length cF]) (fun _ i _=>S.fs.length-(intOf i).toNat);case atStart=>exact⟨0,0,S.fs,S.ws,by omega,by omega,rfl,rfl,ClI.start _ _ _,h.ext hE0,hE0.but _,kS⟩
 case round=>
  clear kS hE0 cS lS;obtain⟨k,n,fs,ws,hk,hn,rfl,rfl,hI,hO,hBw,kS⟩:=hrel;have hfl:=hI.fl;have hwl2:=hI.wl;have Hfl:=Lib.hid hfl;have Hwl2:=Lib.hid hwl2;have HI:=Lib.hid hI;clear hI;have cS:=kS.cell;have lS:=kS.lt;by_cases hlt:k<S.fs.length
  ·have hdec:decide ((k:Int)<S.fs.length)=true:=by simp;omega
   have hdec':decide (k<S.fs.length)=true:=by simp;omega
   have hkI:(k:Int)<S.fs.length:=by omega
   obtain⟨F,hF0⟩: ∃F,S.fs[k]? =some F:=⟨_,List.getElem?_eq_getElem hlt⟩;have hF1:fs[k]? =some F:=(HI.out.f2 k (.inr (Nat.le_refl _))).trans hF0;obtain⟨bF,oF,he,c0,c1,c2⟩:=jl hO.rd.F hF1;simp only[Option.some.injEq,Addr.mk.injEq,and_true]at he;obtain⟨rfl,rfl⟩:=he;simp only[Nat.zero_add]at c0 c1 c2;have lF:=zh c0;have fF:=(zz hO.F).2;have Hiff:=Lib.hid (HS.out.own_iff hF0);clear hfl hwl2 hF0 hF1;by_cases hq:F.o=x.q
   ·have hkc:=Hiff.out.1 hq
    have Hkc:=Lib.hid hkc;have q1:(F.o==x.q)=true:=by simpa using hq
    have q2:(F.o !=x.q)=false:=by simpa using hq
    have q3:decide (F.o≠x.q)=false:=by simpa using hq
    have hkB:(k+1)*B<=S.fs.length*B:=Nat.mul_le_mul_right _ (by omega);rw[Nat.succ_mul]at hkB
    have hkBI:(k:Int)*B+B<=16384:=by
     have:((k*B+B:Nat):Int)<=16384:=by omega
     rwa[Int.natCast_add,Int.natCast_mul]at this
    have hkB0:0<=(k:Int)*B:=Int.mul_nonneg (by omega) (by omega);have hsucc:((k:Int)+1)*B=(k:Int)*B+B:=by rw[Int.add_mul];simp
    have Hq:=Lib.hid hq;clear hq hkc;go_wp2_with fail;have hO2:=SOw.frame hO k qS;simp only[qS]at hO2;have hB2:=hBw.setCell (p:=⟨gF,k*3,none⟩) (by simp) (.int .i64 (-1))|>.setCell (p:=⟨gF,k*3+1,none⟩) (by simp) (.int .i64 (-1))|>.setCell (p:=⟨gF,k*3+2,none⟩) (by simp) (.int .i64 (-1));have kS2:=((kS.far (p:=⟨gF,k*3,none⟩) hg2 (.int .i64 (-1))).far (p:=⟨gF,k*3+1,none⟩) hg2 (.int .i64 (-1))).far (p:=⟨gF,k*3+2,none⟩) hg2 (.int .i64 (-1));replace hO2:=hO2.ext (Ext.alloc (Ext.refl _) (.cells #[.int .i64 F.o,.int .i64 F.s,.int .i64 F.n] 118));replace hB2:=hB2.alloc (.cells #[.int .i64 F.o,.int .i64 F.s,.int .i64 F.n] 118);replace kS2:=kS2.alloc (.cells #[.int .i64 F.o,.int .i64 F.s,.int .i64 F.n] 118);generalize(((wr.setCell ⟨gF,k*3,none⟩ (.int .i64 (-1))).setCell ⟨gF,k*3+1,none⟩ (.int .i64 (-1))).setCell ⟨gF,k*3+2,none⟩ (.int .i64 (-1))).alloc (.cells #[.int .i64 F.o,.int .i64 F.s,.int .i64 F.n] 118)=W2 at hO2 hB2 kS2|-;clear cS lS c0 c1 c2 lF fF hO hBw kS;go_loopw [8] (fun s wq=> ∃j:Nat,j<=B∧s= .int .i64 ((k*B+j:Nat):Int)∧SOw wq base ⟨S.sh,zr ws (k*B) j,fs.set k qS⟩ gW cW gF cF∧But [gW,gF] w wq∧Blk wq b0 29 #[.int .i64 S.sh,.slice (some ⟨gW,0,none⟩) S.ws.length cW,.slice (some ⟨gF,0,none⟩) S.fs.length cF]) (fun s _=>k*B+B-(intOf s).toNat);case atStart=>exact⟨0,by omega,by simp,hO2,hB2,kS2⟩
    case round=>
     clear hO2 hB2 kS2;obtain⟨j,hj,rfl,hO,hBw,kS⟩:=hrel;have cS:=kS.cell;have lS:=kS.lt;by_cases hjl:j<B
     ·obtain⟨t,ht⟩: ∃t,k*B+j=t:=⟨_,rfl⟩
      rw[ht];have Ht:=Lib.hid ht;have htl:t<S.ws.length:=by have:=Hwl.out;omega
      have htI:(t:Int)<S.ws.length:=by omega
      have dt:decide ((t:Int)<(k:Int)*B+B)=true:=by
       have:((t:Nat):Int)<((k*B+B:Nat):Int):=by omega
       rw[Int.natCast_add,Int.natCast_mul]at this;simpa using this
      have htb:t<=20000:=by omega
      have hzl:(zr ws (k*B) j).length=S.ws.length:=by rw[zdw];exact Hwl2.out
      obtain⟨z,hz⟩: ∃z,(zr ws (k*B) j)[t]? =some z:=⟨_,List.getElem?_eq_getElem (by omega)⟩;obtain⟨bW,oW,he,z0⟩:=xw hO.rd.W hz;simp only[Option.some.injEq,Addr.mk.injEq,and_true]at he;obtain⟨rfl,rfl⟩:=he;simp only[Nat.zero_add]at z0;have lW:=zh z0;have fW:=(zz hO.W).2;clear ht hz hzl;go_wp2_with fail;go_roundw
      case rel=>
       refine⟨j+1,by omega,by rw[<-Nat.add_assoc,Ht.out];go_num,?_,But.setCell hBw (by simp) _,kS.far hg1 _⟩;have:=hO.word t 0;rw[show zr ws (k*B) (j+1)=(zr ws (k*B) j).set t 0 by rw[zr,Ht.out]];exact this
      case measure=>have:=Ht.out;simp[intOf];omega
     ·obtain rfl:j=B:=by omega
      have dt:decide (((k*j+j:Nat):Int)<(k:Int)*j+j)=false:=by simp
      have dt':decide ((k:Int)*j+j<(k:Int)*j+j)=false:=by simp
      go_wp2_with fail;go_roundw;case rel=>exact⟨k+1,n+1,fs.set k qS,zr ws (k*j) j,by omega,by omega,by go_num,by go_num,HI.out.step (by omega) Hkc.out hlt (by have:=Hwl.out;omega),hO,hBw,kS⟩
      case measure=>simp[intOf];omega
   ·have q1:(F.o==x.q)=false:=by simpa using hq
    have q2:(F.o !=x.q)=true:=by simpa using hq
    have q3:decide (F.o≠x.q)=true:=by simpa using hq
    have hkc:k∉x.c:=fun hm=>hq (Hiff.out.2 hm)
    have Hkc:=Lib.hid hkc;clear hq hkc;go_wp2_with fail;go_roundw;case rel=>exact⟨k+1,n,fs,ws,by omega,by omega,rfl,by go_num,HI.out.skip Hkc.out,hO.ext (Ext.alloc (Ext.refl _) _),hBw.alloc _,kS.alloc _⟩
    case measure=>simp[intOf];omega
  ·have hdec:decide ((k:Int)<S.fs.length)=false:=by simp;omega
   have hdec':decide (k<S.fs.length)=false:=by simp;omega
   obtain rfl:k=S.fs.length:=by omega
   go_wp2_with fail;go_ret;exact⟨fs,ws,n,rfl,HI.out,hO,hBw⟩
def BRd(w:World)(A:Option Addr)(Q:List (List Inc)):Prop:=0<Q.length-> ∃b o,A=some ⟨b,o,none⟩∧∀(i:Nat) (q:List Inc),Q[i]? =some q-> ∃(P:Option Addr) (c:Nat),w.cell? ⟨b,o+i,none⟩=some (.slice P q.length c)∧Rd w P q.length 5 (zQ q)
theorem BRd.ext{w w':World}{A:Option Addr}{Q:List (List Inc)}(h:BRd w A Q)(he:Ext w w'):BRd w' A Q:=by
 intro h0;obtain⟨b,o,hA,hc⟩:=h h0;refine⟨b,o,hA,fun i q hq=> ?_⟩;obtain⟨P,c,h1,h2⟩:=hc i q hq;exact⟨P,c,zp he h1,h2.ext he⟩
theorem BRd.at_{w:World}{A:Option Addr}{Q:List (List Inc)}(h:BRd w A Q){i:Nat}{q:List Inc}(hq:Q[i]? =some q): ∃b o P c,A=some ⟨b,o,none⟩∧w.cell? ⟨b,o+i,none⟩=some (.slice P q.length c)∧Rd w P q.length 5 (zQ q):=by
 obtain⟨b,o,hA,hc⟩:=h (by have:=(List.getElem?_eq_some_iff.1 hq).1;omega);obtain⟨P,c,h1,h2⟩:=hc i q hq;exact⟨b,o,P,c,hA,h1,h2⟩
def zin(w:World)(l:List Inc)(r:Ending)(w':World):Prop:=
 ∃A c,r= .returned (.slice A l.length c)∧w'.ownsRow w.heap.size 144 5 (.slice A l.length c) l.length (zQ l)∧Ext w w'
theorem zcv{Q:List (List Inc)}{k:Nat}{q:List Inc}(h:Q[k]? =some q):(Q.take (k+1)).flatten=(Q.take k).flatten++q:=by
 rw[List.take_add_one,h];simp
theorem zio(Q:List (List Inc))(k:Nat):(Q.take k).flatten.length<=Q.flatten.length:=by
 have h:Q.flatten=(Q.take k).flatten++(Q.drop k).flatten:=by rw[<-List.flatten_append,List.take_append_drop]
 rw[h,List.length_append];omega
theorem zl0(A:Option Addr)(c:Nat)(Q:List (List Inc))(w:World)(h:BRd w A Q)(hn:Q.length<=1000)(hf:Q.flatten.length<=100000):
 Calls Tryz.prog 123 #[.slice A Q.length c] w (zin w Q.flatten):=by
 go_enter Tryz.func123,Tryz.ntmps123;go_wp2;go_loopw [3,8] (fun s i wr=> ∃(k:Nat) (D:Option Addr) (d:Nat),k<=Q.length∧i= .int .i64 k∧s= .slice D (Q.take k).flatten.length d∧wr.ownsRow w.heap.size 144 5 (.slice D (Q.take k).flatten.length d) (Q.take k).flatten.length (zQ (Q.take k).flatten)∧Ext w wr) (fun _ i _=>Q.length-(intOf i).toNat);case atStart=>exact⟨0,none,0,by omega,rfl,rfl,zP _ _ _ _,by exact jX⟩
 case round=>
  obtain⟨k,D,d,hk,rfl,rfl,hown,hE⟩:=hrel;have hsz:=hE.size_le;have hfl:=zio Q k;by_cases hlt:k<Q.length
  ·have hdec:decide ((k:Int)<Q.length)=true:=by simp;omega
   have hdec':decide (k<Q.length)=true:=by simp;omega
   have hkI:(k:Int)<Q.length:=by omega
   obtain⟨q,hq⟩: ∃q,Q[k]? =some q:=⟨_,List.getElem?_eq_getElem hlt⟩;obtain⟨b,o,P,cq,rfl,hc,hP⟩:=(h.ext hE).at_ hq;have hft:=zcv hq;have hfl2:=zio Q (k+1);have lC:=zh hc;rw[hft,List.length_append]at hfl2;have Hft:=Lib.hid hft;clear hft hq;generalize hz:(Q.take k).flatten=z at*;have Hz:=Lib.hid hz;clear hz;go_wp2_with(first|(at_builtin;refine zJ rfl Tryz.elN _ _ rfl w.heap.size _ _ _ rfl hown _ q.length _ (zQ q) rfl hP (v8 q) (by omega) (by omega) (by(first|omega|(simp;done)|(simp;omega))) ?_;intro A2 a2 w2 hown2 hg2 hat2));have hE2:Ext w w2:=yy hE hg2 hown (Nat.le_refl _);have hl2:(z++q).length=z.length+q.length:=by simp
   rw[<-yC]at hown2;have Hl2:=Lib.hid hl2;clear hl2;go_wp2;go_roundw;case rel=>exact⟨k+1,A2,a2,by omega,by go_num,by rw[Hft.out,Hl2.out],by rw[Hft.out,Hl2.out];exact hown2,hE2⟩
   case measure=>simp[intOf];omega
  ·have hdec:decide ((k:Int)<Q.length)=false:=by simp;omega
   have hdec':decide (k<Q.length)=false:=by simp;omega
   have hke:k=Q.length:=by omega
   rw[hke,List.take_length]at hown|-;go_wp2;go_ret;exact⟨D,d,rfl,hown,hE⟩
theorem Tryz.elB:Elem Tryz.prog 30 155 (.slice none 0 0) 1 24:=⟨Tryz.underlying30,by kernel_rfl,rfl,by omega⟩
def qs(l:List Inc):List (List Inc):= [l.filter (fun i=>i.b==0),l.filter (fun i=>i.b==1),l.filter (fun i=>i.b==2)]
theorem zY{N:Nat}{S:List Nat}{a b:World}(h:Bel N S a.drew b):Bel N S a b:=⟨h.os,h.tape,h.output,h.size,h.block⟩
theorem y8{S:List Nat}{w w':World}(h:Bel w.heap.size S w w'):But S w w':=⟨h.os,h.tape,h.output,h.size,fun k hk hs=>h.block (Nat.le_refl _) k hk hs⟩
theorem But.more{S S':List Nat}{w w':World}(h:But S w w')(hs: ∀q∈S,q∈S'):But S' w w':=⟨h.os,h.tape,h.output,h.size,fun k hk hn=>h.block k hk (fun hm=>hn (hs k hm))⟩
theorem xS{N base size n:Nat}{e:TypeId}{v:Value}{xs:List Value}{w w':World}(hg:w.grownBy w' v.ownBlock)(hown:w.ownsRow base e size v n xs)(hb:N<=base):Bel N [] w w':=
 ⟨hg.os,hg.tape,hg.output,hg.size,fun _ k hk _=>hg.block k (by
   rcases Nat.lt_or_ge k w.heap.size with hlt|hge
   ·exact hlt
   ·omega) (fun e=>by
   have:=(World.ownsRow.lt hown k e.symm).1;omega)⟩
theorem yM{w W w':World}(hE:Ext w W)(hb:Bel w.heap.size [] W w'):Ext w w':=
 ⟨hb.os.trans hE.os,hb.tape.trans hE.tape,hb.output.trans hE.output,Nat.le_trans hE.size_le hb.size,fun k hk=>(hb.block hE.size_le k hk (by simp)).trans (hE.block k hk)⟩
theorem zoz{w:World}{A:Option Addr}{n size k:Nat}{xs:List Value}(h:Rd w A n size xs)(hk:k<=n):Rd w A k size (xs.take (k*size)):=by
 refine⟨?_,fun h0=> ?_⟩
 ·rw[List.length_take,h.1,Nat.min_eq_left (Nat.mul_le_mul_right _ hk)]
 ·obtain⟨b,o,hA,hc⟩:=h.2 (by omega)
  refine⟨b,o,hA,fun j u hu=>hc j u ?_⟩;rw[List.getElem?_take]at hu;split at hu
  ·exact hu
  ·cases hu
theorem zdx{w:World}{b o n size k:Nat}{xs:List Value}(h:Rd w (some ⟨b,o,none⟩) n size xs)(hk:k<=n)(A:Option Addr)(hA:k<n->A=some ⟨b,o+k*size,none⟩):Rd w A (n-k) size (xs.drop (k*size)):=by
 refine⟨?_,fun h0=> ?_⟩
 ·rw[List.length_drop,h.1,Nat.sub_mul]
 ·obtain⟨b',o',hA',hc⟩:=h.2 (by omega)
  simp only[Option.some.injEq,Addr.mk.injEq,and_true]at hA';obtain⟨rfl,rfl⟩:=hA';refine⟨b,o+k*size,hA (by omega),fun j u hu=> ?_⟩;rw[List.getElem?_drop]at hu;rw[Nat.add_assoc];exact hc _ u hu
theorem vm{w:World}{base n size:Nat}{v:Value}{e:TypeId}{xs:List Value}(h:w.ownsRow base e size v n xs): ∃A c,v= .slice A n c∧n<=c∧(0<n-> ∃g,A=some ⟨g,0,none⟩):=by
 rcases h.2 with⟨h0,hz⟩|⟨g,cap,cur,hv,hb,hg,hc,r⟩
 ·exact⟨none,0,by rw[h0,hz],by omega,fun h=>by omega⟩
 ·exact⟨_,cap,hv,hc,fun _=>⟨g,rfl⟩⟩
theorem zbn{w:World}{A:Option Addr}{n k:Nat}{l:List Nat}(h:Rd w A n 1 (yb (yB l)))(hk:k<=n):Rd w A k 1 (yb (yB (l.take k))):=by
 have:=zoz h hk;simpa[yb,yB]using this
theorem zl1{w:World}{b k:Nat}{l:List Nat}(h:Rd w (some ⟨b,0,none⟩) l.length 1 (yb (yB l)))(hk:k<=l.length):Rd w (some ⟨b,k,none⟩) (l.length-k) 1 (yb (yB (l.drop k))):=by
 have:=zdx h hk (some ⟨b,k,none⟩) (fun _=>by rw[Nat.mul_one,Nat.zero_add]);simpa[yb,yB]using this
theorem ze0(w:World)(A:Option Addr)(l:List Nat):Rd w A 0 1 (yb (yB (l.drop l.length))):=by
 rw[List.drop_length];exact Rd.nil_ _ _ _
def Asc(l:List Nat):Prop:=l.Pairwise (· < ·)
def xU(w:World)(v:Value)(l:List Nat):Prop:=w.ownsRow 0 3 1 v l.length (yb (yB l))
theorem xU.ext{w w':World}{v:Value}{l:List Nat}(h:xU w v l)(he:Ext w w'):xU w' v l:=zm h he
theorem v9(f g f' g':Nat)(u v:Value)(b:Bool)(w:World)(hb:decide (f<f'∨f=f'∧g<g')=b):
 Calls Tryz.prog 114 #[.agg #[.int .i64 f,.int .i64 g,u],.agg #[.int .i64 f',.int .i64 g',v]] w fun r w'=>r= .returned (.bool b)∧Ext w w':=by
 subst hb;go_enter Tryz.func114,Tryz.ntmps114;by_cases h1:f<f'
 ·have d1:decide ((f:Int)<f')=true:=by(first|omega|(simp;done)|(simp;omega))
  have d2:decide (f<f')=true:=by(first|omega|(simp;done)|(simp;omega))
  have hr:decide (f<f'∨f=f'∧g<g')=true:=by simp[h1]
  go_wp2;go_ret;exact⟨xv hr.symm,by exact jX⟩
 ·have d1:decide ((f:Int)<f')=false:=by(first|omega|(simp;done)|(simp;omega))
  have d2:decide (f<f')=false:=by(first|omega|(simp;done)|(simp;omega))
  by_cases h2:f=f'
  ·subst h2
   have d3:((f:Int)==(f:Int))=true:=by simp
   have d4:decide ((g:Int)<g')=decide (g<g'):=by simp
   have hr:decide (f<f∨f=f∧g<g')=decide (g<g'):=by simp
   go_wp2;go_ret;exact⟨xv (by simp),by exact jX⟩
  ·have d3:((f:Int)==(f':Int))=false:=by simp;omega
   have hr:decide (f<f'∨f=f'∧g<g')=false:=by simp[h1,h2]
   go_wp2;go_ret;exact⟨xv hr.symm,by exact jX⟩
theorem vn{w:World}{A:Option Addr}{n:Nat}{zs:List Int}(h:Rd w A n 1 (yb zs)){k:Nat}{z:Int}(hk:zs[k]? =some z): ∃b o,A=some ⟨b,o,none⟩∧w.cell? ⟨b,o+k,none⟩=some (.int .i64 z):=by
 have hn:zs.length=n:=by have:=h.1;simpa[zen]using this
 obtain⟨b,o,hA,hc⟩:=h.2 (by have:=(List.getElem?_eq_some_iff.1 hk).1;omega);exact⟨b,o,hA,hc k _ (xq hk)⟩
theorem zju(A:Option Addr)(c:Nat)(zs:List Int)(v:Int)(b:Bool)(w:World)(h:Rd w A zs.length 1 (yb zs))(hn:zs.length<=1000000)(hb:decide (v∈zs)=b):
 Calls Tryz.prog 124 #[.slice A zs.length c,.int .i64 v] w fun r w'=>r= .returned (.bool b)∧Ext w w':=by
 subst hb;go_enter Tryz.func124,Tryz.ntmps124;go_wp2;go_loop [9] (fun i=> ∃k:Nat,k<=zs.length∧i= .int .i64 k∧v∉zs.take k) (fun i=>zs.length-(intOf i).toNat);case atStart=>exact⟨0,by omega,rfl,by simp⟩
 case round=>
  obtain⟨k,hk,rfl,hno⟩:=hrel;by_cases hlt:k<zs.length
  ·have hdec:decide ((k:Int)<zs.length)=true:=by simp;omega
   have hdec':decide (k<zs.length)=true:=by simp;omega
   have hkI:(k:Int)<zs.length:=by omega
   obtain⟨z,hz⟩: ∃z,zs[k]? =some z:=⟨_,List.getElem?_eq_getElem hlt⟩;obtain⟨b1,o1,rfl,c0⟩:=vn h hz;have l1:=zh c0;have Hno:=Lib.hid hno;have Hz:=Lib.hid hz;clear hno hz;by_cases he:z=v
   ·have q1:(z==v)=true:=by simpa using he
    have Hr:=Lib.hid (show decide (v∈zs)=true by simp[<-he,List.mem_of_getElem? Hz.out]);clear he;go_wp2;go_ret;exact⟨xv Hr.out.symm,by exact jX⟩
   ·have q1:(z==v)=false:=by simpa using he
    have He:=Lib.hid he;clear he;go_wp2
    go_round
    case rel=>exact⟨k+1,by omega,by go_num,by
     rw[List.take_add_one,Hz.out];intro hm;rcases List.mem_append.1 hm with hm|hm
     ·exact Hno.out hm
     ·simp only[Option.toList,List.mem_singleton]at hm
      exact He.out hm.symm⟩
    case measure=>simp[intOf];omega
  ·have hdec:decide ((k:Int)<zs.length)=false:=by simp;omega
   have hdec':decide (k<zs.length)=false:=by simp;omega
   have hke:k=zs.length:=by omega
   have Hr:=Lib.hid (show decide (v∈zs)=false by rw[hke,List.take_length]at hno;simp[hno]);clear hno;go_wp2;go_ret;exact⟨xv Hr.out.symm,by exact jX⟩
def zdy(w:World)(l:List Nat)(v:Nat)(r:Ending)(w':World):Prop:=
 ∃(l':List Nat) (A:Option Addr) (c:Nat),r= .returned (.slice A l'.length c)∧xU w' (.slice A l'.length c) l'∧Asc l'∧(∀x,x∈l'↔x∈l∨x=v)∧Ext w w'
theorem jM{l:List Nat}{k x:Nat}(h:l[k]? =some x):(yB l)[k]? =some (x:Int):=by simp[yB,h]
theorem zdz{l:List Nat}{k v:Nat}(h:Asc l)(h1: ∀x∈l.take k,x<v)(h2: ∀x∈l.drop k,v<x):Asc (l.take k++ [v]++l.drop k)∧∀x,x∈l.take k++ [v]++l.drop k↔x∈l∨x=v:=by
 have hd:l=l.take k++l.drop k:=(List.take_append_drop k l).symm;constructor
 ·unfold Asc at h|-
  rw[hd,List.pairwise_append]at h;rw[List.pairwise_append,List.pairwise_append];refine⟨⟨h.1,by simp,fun a ha b hb=> ?_⟩,h.2.1,fun a ha b hb=> ?_⟩
  ·simp only[List.mem_singleton]at hb
   subst hb;exact h1 a ha
  ·rcases List.mem_append.1 ha with ha|ha
   ·exact h.2.2 a ha b hb
   ·simp only[List.mem_singleton]at ha
    subst ha;exact h2 b hb
 ·intro x
  rw[List.mem_append,List.mem_append,List.mem_singleton];constructor
  ·rintro((hx|hx)|hx)
   ·exact .inl (List.mem_of_mem_take hx)
   ·exact .inr hx
   ·exact .inl (List.mem_of_mem_drop hx)
  ·rintro(hx|hx)
   ·rw[hd]at hx
    rcases List.mem_append.1 hx with hx|hx
    ·exact .inl (.inl hx)
    ·exact .inr hx
   ·exact .inl (.inr hx)
theorem zqs{l:List Nat}{k x v:Nat}(h:Asc l)(hk:l[k]? =some x)(hv:v<x): ∀y∈l.drop k,v<y:=by
 intro y hy;obtain⟨j,hj⟩:=List.mem_iff_getElem?.1 hy;rw[List.getElem?_drop]at hj;rcases Nat.eq_zero_or_pos j with rfl|hp
 ·rw[Nat.add_zero,hk]at hj
  injection hj with hj;omega
 ·obtain⟨h1,e1⟩:=List.getElem?_eq_some_iff.1 hk
  obtain⟨h2,e2⟩:=List.getElem?_eq_some_iff.1 hj;have:=List.pairwise_iff_getElem.1 h k (k+j) h1 h2 (by omega);omega
theorem zjv(v:Nat)(A:Option Addr)(g c:Nat)(l:List Nat)(w:World)(hA:A=some ⟨g,0,none⟩)(h:xU w (.slice A l.length c) l)(hs:Asc l)(hn:l.length<=100000):
 Calls Tryz.prog 115 #[.slice A l.length c,.int .i64 v] w (zdy w l v):=by
 have hcap:l.length<=c:=by
  obtain⟨A',c',he,hc,_⟩:=vm h;simp only[Value.slice.injEq]at he;omega
 have Hs:=Lib.hid hs;clear hs;subst hA;go_enter Tryz.func115,Tryz.ntmps115;go_wp2;go_loop [5] (fun i=> ∃k:Nat,k<=l.length∧i= .int .i64 k∧∀x∈l.take k,x<v) (fun i=>l.length-(intOf i).toNat);case atStart=>exact⟨0,by omega,rfl,by simp⟩
 case round=>
  obtain⟨k,hk,rfl,hlo⟩:=hrel;have Hlo:=Lib.hid hlo;clear hlo;by_cases hlt:k<l.length
  ·have hdec:decide ((k:Int)<l.length)=true:=by simp;omega
   have hdec':decide (k<l.length)=true:=by simp;omega
   have hkI:(k:Int)<l.length:=by omega
   obtain⟨z,hz⟩: ∃z,l[k]? =some z:=⟨_,List.getElem?_eq_getElem hlt⟩;obtain⟨b1,o1,he,c0⟩:=vn (Rd.of_own h) (jM hz);simp only[Option.some.injEq,Addr.mk.injEq,and_true]at he;obtain⟨rfl,rfl⟩:=he;simp only[Nat.zero_add]at c0;have l1:=zh c0;have Hz:=Lib.hid hz;clear hz;by_cases hv:z<v
   ·have d1:decide ((z:Int)<v)=true:=by(first|omega|(simp;done)|(simp;omega))
    have d2:decide (z<v)=true:=by(first|omega|(simp;done)|(simp;omega))
    go_wp2
    go_round
    case rel=>exact⟨k+1,by omega,by go_num,by
     rw[List.take_add_one,Hz.out];intro x hm;rcases List.mem_append.1 hm with hm|hm
     ·exact Hlo.out x hm
     ·simp only[Option.toList,List.mem_singleton]at hm
      omega⟩
    case measure=>simp[intOf];omega
   ·have d1:decide ((z:Int)<v)=false:=by(first|omega|(simp;done)|(simp;omega))
    have d2:decide (z<v)=false:=by(first|omega|(simp;done)|(simp;omega))
    by_cases he:z=v
    ·subst he
     have q1:((z:Int)==(z:Int))=true:=by simp
     go_wp2;go_ret;exact⟨l,_,c,rfl,h,Hs.out,fun x=>⟨fun hx=> .inl hx,fun hx=>hx.elim id (fun e=>by subst e;exact List.mem_of_getElem? Hz.out)⟩,by exact jX⟩
    ·have q1:((z:Int)==(v:Int))=false:=by simp;omega
     have Hgt:=Lib.hid (zqs Hs.out Hz.out (show v<z by omega));have hck: ¬(c=k):=by omega
     have hca:=hcap;have HT:=Lib.hid (zbn (Rd.of_own h) hk);go_wp2_with(first|(at_builtin;refine y6 rfl Tryz.elI _ _ rfl rfl _ _ _ _ _ rfl HT.out (xj _) (by omega) (by omega) (Nat.le_refl _) ?_;intro B d w1 hB hE1));have HD:=Lib.hid (zl1 (Rd.of_own h) hk);have hz1:=hE1.size_le
     skip
     refine zn (w.heap.size) [] (.take 0 (.take 1 (.take 4 (.take 5 (.take 6 (.alt 2 (.alt 3 (.alt 7 (.take 8 .done) .none) .none) .none)))))) Tryz.mixed (by kernel_rfl) ?_;intro hx;iterate 5 (first|refine jTN hx ?_|refine jTS ?_)
     refine jCN hx (fun K hK=> ?_);go_simp;first|refine hK _ _ jN ?_|refine hK undef _ jN ?_
     clear hK hx;intro hx;refine jp ?_;refine jCN hx (fun K hK=> ?_);refine zX Tryz.elI _ _ rfl w.heap.size _ _ _ rfl (zm hB jX) _ 1 1 _ rfl (xm _ _ _) (by simp[Value.oneCell']) (by omega) (by omega) (by(first|omega|(simp;done)|(simp;omega))) ?_;intro A2 c2 w2 hown2 hg2 hat2;refine hK _ _ ((xS hg2 (zm hB jX) (Nat.le_refl _))) ?_;clear hK hx;intro hx;refine jp ?_;refine jCN hx (fun K hK=> ?_);refine zX Tryz.elI _ _ rfl w.heap.size _ _ _ rfl hown2 _ (l.length-k) _ _ rfl (HD.out.ext (yM hE1.drew hx)) (xj _) (by omega) (by omega) (Nat.le_trans hz1 hx.size) ?_;intro A3 c3 w3 hown3 hg3 hat3;refine hK _ _ ((xS hg3 hown2 (Nat.le_refl _))) ?_;clear hK hx;intro hx;refine jp ?_;first|refine jTN hx ?_|refine jTS ?_
     refine zi ?_
     trace_state
     go_wp2;go_ret;obtain⟨h1,h2⟩:=zdz Hs.out Hlo.out Hgt.out;have hl3:(l.take (k)++ [v]++l.drop (k)).length=(k)+1+(l.length-k):=by(first|omega|(simp;done)|(simp;omega))
     refine⟨l.take (k)++ [v]++l.drop (k),A3,c3,by rw[hl3];rfl,?_,h1,h2,yM hE1.drew hx⟩;unfold xU;rw[hl3];have:=zu hown3 (Nat.zero_le _);simpa[yb,yB]using this
  ·have hke:k=l.length:=by omega
   have hdec:decide ((k:Int)<l.length)=false:=by simp;omega
   have hdec':decide (k<l.length)=false:=by simp;omega
   subst hke;by_cases hce:c=l.length
   ·skip
    have hca:=hcap;have HT:=Lib.hid (zbn (Rd.of_own h) hk);go_wp2_with(first|(at_builtin;refine y6 rfl Tryz.elI _ _ rfl rfl _ _ _ _ _ rfl HT.out (xj _) (by omega) (by omega) (Nat.le_refl _) ?_;intro B d w1 hB hE1));have HD:=Lib.hid (trivial);have hz1:=hE1.size_le
    skip
    refine zn (w.heap.size) [] (.take 0 (.take 1 (.take 4 (.take 5 (.take 6 (.alt 2 (.alt 3 (.alt 7 (.take 8 .done) .none) .none) .none)))))) Tryz.mixed (by kernel_rfl) ?_;intro hx;iterate 5 (first|refine jTN hx ?_|refine jTS ?_)
    refine jCN hx (fun K hK=> ?_);go_simp;first|refine hK _ _ jN ?_|refine hK undef _ jN ?_
    clear hK hx;intro hx;refine jp ?_;refine jCN hx (fun K hK=> ?_);refine zX Tryz.elI _ _ rfl w.heap.size _ _ _ rfl (zm hB jX) _ 1 1 _ rfl (xm _ _ _) (by simp[Value.oneCell']) (by omega) (by omega) (by(first|omega|(simp;done)|(simp;omega))) ?_;intro A2 c2 w2 hown2 hg2 hat2;refine hK _ _ ((xS hg2 (zm hB jX) (Nat.le_refl _))) ?_;clear hK hx;intro hx;refine jp ?_;refine jCN hx (fun K hK=> ?_);refine zX Tryz.elI _ _ rfl w.heap.size _ _ _ rfl hown2 _ 0 _ _ rfl (ze0 _ _ l) (xj _) (by omega) (by omega) (Nat.le_trans hz1 hx.size) ?_;intro A3 c3 w3 hown3 hg3 hat3;refine hK _ _ ((xS hg3 hown2 (Nat.le_refl _))) ?_;clear hK hx;intro hx;refine jp ?_;first|refine jTN hx ?_|refine jTS ?_
    refine zi ?_
    trace_state
    go_wp2;go_ret;obtain⟨h1,h2⟩:=zdz Hs.out Hlo.out (by simp);have hl3:(l.take (l.length)++ [v]++l.drop (l.length)).length=(l.length)+1+(0):=by(first|omega|(simp;done)|(simp;omega))
    refine⟨l.take (l.length)++ [v]++l.drop (l.length),A3,c3,by rw[hl3];rfl,?_,h1,h2,yM hE1.drew hx⟩;unfold xU;rw[hl3];have:=zu hown3 (Nat.zero_le _);simpa[yb,yB]using this
   ·skip
    have hca:=hcap;have HT:=Lib.hid (zbn (Rd.of_own h) hk);go_wp2_with(first|(at_builtin;refine y6 rfl Tryz.elI _ _ rfl rfl _ _ _ _ _ rfl HT.out (xj _) (by omega) (by omega) (Nat.le_refl _) ?_;intro B d w1 hB hE1));have HD:=Lib.hid (trivial);have hz1:=hE1.size_le
    skip
    refine zn (w.heap.size) [] (.take 0 (.take 1 (.take 4 (.take 5 (.take 6 (.alt 2 (.alt 3 (.alt 7 (.take 8 .done) .none) .none) .none)))))) Tryz.mixed (by kernel_rfl) ?_;intro hx;iterate 5 (first|refine jTN hx ?_|refine jTS ?_)
    refine jCN hx (fun K hK=> ?_);go_simp;first|refine hK _ _ jN ?_|refine hK undef _ jN ?_
    clear hK hx;intro hx;refine jp ?_;refine jCN hx (fun K hK=> ?_);refine zX Tryz.elI _ _ rfl w.heap.size _ _ _ rfl (zm hB jX) _ 1 1 _ rfl (xm _ _ _) (by simp[Value.oneCell']) (by omega) (by omega) (by(first|omega|(simp;done)|(simp;omega))) ?_;intro A2 c2 w2 hown2 hg2 hat2;refine hK _ _ ((xS hg2 (zm hB jX) (Nat.le_refl _))) ?_;clear hK hx;intro hx;refine jp ?_;refine jCN hx (fun K hK=> ?_);refine zX Tryz.elI _ _ rfl w.heap.size _ _ _ rfl hown2 _ 0 _ _ rfl (ze0 _ _ l) (xj _) (by omega) (by omega) (Nat.le_trans hz1 hx.size) ?_;intro A3 c3 w3 hown3 hg3 hat3;refine hK _ _ ((xS hg3 hown2 (Nat.le_refl _))) ?_;clear hK hx;intro hx;refine jp ?_;first|refine jTN hx ?_|refine jTS ?_
    refine zi ?_
    trace_state
    go_wp2;go_ret;obtain⟨h1,h2⟩:=zdz Hs.out Hlo.out (by simp);have hl3:(l.take (l.length)++ [v]++l.drop (l.length)).length=(l.length)+1+(0):=by(first|omega|(simp;done)|(simp;omega))
    refine⟨l.take (l.length)++ [v]++l.drop (l.length),A3,c3,by rw[hl3];rfl,?_,h1,h2,yM hE1.drew hx⟩;unfold xU;rw[hl3];have:=zu hown3 (Nat.zero_le _);simpa[yb,yB]using this
theorem zl2(v:Nat)(w:World):
 Calls Tryz.prog 115 #[.slice none 0 0,.int .i64 v] w (zdy w [] v):=by
 have h:xU w (.slice none ([]:List Nat).length 0) []:=zP _ _ _ _;obtain⟨l,hl⟩: ∃l:List Nat,[]=l:=⟨_,rfl⟩;have hl0:l.length=0:=by rw[<-hl];rfl
 rw[hl]at h|-;have Hl:=Lib.hid hl.symm;clear hl;go_enter Tryz.func115,Tryz.ntmps115;go_wp2;go_loop [5] (fun i=>i= .int .i64 0) (fun i=>0);case atStart=>rfl
 case round=>
  subst hrel;go_wp2;have hE1:=Ext.refl w;have hz1:=hE1.size_le;refine zn (w.heap.size) [] (.take 0 (.take 1 (.take 4 (.take 5 (.take 6 (.alt 2 (.alt 3 (.alt 7 (.take 8 .done) .none) .none) .none)))))) Tryz.mixed (by kernel_rfl) ?_;intro hx;iterate 5 (first|refine jTN hx ?_|refine jTS ?_)
  refine jCN hx (fun K hK=> ?_);go_simp;first|refine hK _ _ jN ?_|refine hK undef _ jN ?_
  clear hK hx;intro hx;refine jp ?_;refine jCN hx (fun K hK=> ?_);refine zX Tryz.elI _ _ rfl w.heap.size _ 0 [] rfl (zP _ _ _ _) _ 1 1 _ rfl (xm _ _ _) (by simp[Value.oneCell']) (by omega) (by omega) (by(first|omega|(simp;done)|(simp;omega))) ?_;intro A2 c2 w2 hown2 hg2 hat2;refine hK _ _ ((xS hg2 (zP _ w.heap.size 3 1) (Nat.le_refl _))) ?_;clear hK hx;intro hx;refine jp ?_;refine jCN hx (fun K hK=> ?_);refine zX Tryz.elI _ _ rfl w.heap.size _ _ _ rfl hown2 _ 0 _ [] rfl (Rd.nil_ _ _ _) (by simp) (by omega) (by omega) (Nat.le_trans hz1 hx.size) ?_;intro A3 c3 w3 hown3 hg3 hat3;refine hK _ _ ((xS hg3 hown2 (Nat.le_refl _))) ?_;clear hK hx;intro hx;refine jp ?_;first|refine jTN hx ?_|refine jTS ?_
  refine zi ?_;go_wp2;go_ret;have hl:=Hl.out;subst hl;refine⟨[v],A3,c3,rfl,zu hown3 (Nat.zero_le _),by simp[Asc],by simp,yM hE1.drew hx⟩
theorem ze1(v:Nat)(A:Option Addr)(c:Nat)(l:List Nat)(w:World)(h:xU w (.slice A l.length c) l)(hs:Asc l)(hn:l.length<=100000):
 Calls Tryz.prog 115 #[.slice A l.length c,.int .i64 v] w (zdy w l v):=by
 rcases h.2 with⟨h0,hz⟩|⟨g,cap,cur,hv,_⟩
 ·have:l= []:=List.eq_nil_of_length_eq_zero hz
  subst this;simp only[Value.slice.injEq]at h0;obtain⟨rfl,_,rfl⟩:=h0;exact zl2 v w
 ·simp only[Value.slice.injEq]at hv
  exact zjv v A g c l w hv.1 h hs hn
def ltS(a b:St):Prop:=a.f<b.f∨a.f=b.f∧a.g<b.g
def WfS(ss:List St):Prop:=ss.Pairwise ltS∧∀x∈ss,x.f<64∧x.g<64∧Asc x.l∧∀t∈x.l,t<16384
theorem ltS.trans{a b c:St}(h:ltS a b)(k:ltS b c):ltS a c:=by unfold ltS at*;omega
theorem vE{l:List Nat}(h:Asc l):l.Nodup:=h.imp (fun h=>Nat.ne_of_lt h)
theorem WfS.len{ss:List St}(h:WfS ss):ss.length<=4096:=by
 have h1:(ss.map fun x=>x.f*64+x.g).Nodup:=by
  rw[List.nodup_iff_pairwise_ne,List.pairwise_map];refine List.Pairwise.imp_of_mem ?_ h.1;intro a b ha hb hab;have:=h.2 a ha;have:=h.2 b hb;unfold ltS at hab;omega
 have:=vT 4096 _ h1 (fun y hy=>by
  obtain⟨x,hx,rfl⟩:=List.mem_map.1 hy;have:=h.2 x hx;show x.f*64+x.g<4096;omega)
 simpa using this
theorem WfS.slots{ss:List St}(h:WfS ss){x:St}(hx:x∈ss):x.l.length<=16384:=vT _ _ (vE (h.2 x hx).2.2.1) (h.2 x hx).2.2.2
theorem WfS.putA{ss:List St}{k:Nat}{x:St}{l':List Nat}{t:Nat}(h:WfS ss)(hk:ss[k]? =some x)(hl:Asc l')(hm: ∀y,y∈l'↔y∈x.l∨y=t)(ht:t<16384):
 WfS (ss.set k ⟨x.f,x.g,l'⟩)∧∀f g s,inS (ss.set k ⟨x.f,x.g,l'⟩) f g s↔inS ss f g s∨(f=x.f∧g=x.g∧s=t):=by
 obtain⟨hkl,hke⟩:=List.getElem?_eq_some_iff.1 hk;have hx:=List.mem_of_getElem? hk;constructor
 ·constructor
  ·rw[List.pairwise_iff_getElem]
   intro i j hi hj hij;simp only[List.length_set]at hi hj;have h0:=List.pairwise_iff_getElem.1 h.1 i j hi hj hij;rw[List.getElem_set,List.getElem_set];unfold ltS at h0|-;by_cases hi1:k=i
   ·subst hi1
    rw[if_pos rfl,if_neg (by omega)];rw[hke]at h0;exact h0
   ·rw[if_neg hi1]
    by_cases hj1:k=j
    ·subst hj1
     rw[if_pos rfl];rw[hke]at h0;exact h0
    ·rw[if_neg hj1]
     exact h0
  ·intro y hy
   rcases List.mem_or_eq_of_mem_set hy with hy|rfl
   ·exact h.2 y hy
   ·obtain⟨a,b,_,d⟩:=h.2 x hx
    refine⟨a,b,hl,fun s hs=> ?_⟩;rcases(hm s).1 hs with hs|rfl
    ·exact d s hs
    ·exact ht
 ·intro f g s
  constructor
  ·rintro⟨y,hy,rfl,rfl,hs⟩
   rcases List.mem_or_eq_of_mem_set hy with hy|rfl
   ·exact .inl ⟨y,hy,rfl,rfl,hs⟩
   ·rcases(hm s).1 hs with hs|rfl
    ·exact .inl ⟨x,hx,rfl,rfl,hs⟩
    ·exact .inr ⟨rfl,rfl,rfl⟩
  ·have hmem:(⟨x.f,x.g,l'⟩:St)∈ss.set k ⟨x.f,x.g,l'⟩:=List.mem_of_getElem? (i:=k) (List.getElem?_set_self hkl)
   rintro(⟨y,hy,rfl,rfl,hs⟩|⟨rfl,rfl,rfl⟩)
   ·obtain⟨j,hj⟩:=List.mem_iff_getElem?.1 hy
    by_cases hjk:k=j
    ·subst hjk
     rw[hk]at hj;injection hj with hj;subst hj;exact⟨_,hmem,rfl,rfl,(hm s).2 (.inl hs)⟩
    ·exact⟨y,List.mem_of_getElem? (i:=j) (by rw[List.getElem?_set_ne hjk];exact hj),rfl,rfl,hs⟩
   ·exact⟨_,hmem,rfl,rfl,(hm s).2 (.inr rfl)⟩
theorem WfS.putB{ss:List St}{k f g t:Nat}(h:WfS ss)(h1: ∀x∈ss.take k,ltS x ⟨f,g,[t]⟩)(h2: ∀x∈ss.drop k,ltS ⟨f,g,[t]⟩ x)(hf:f<64)(hg:g<64)(ht:t<16384):
 WfS (ss.take k++ [⟨f,g,[t]⟩]++ss.drop k)∧∀f' g' s,inS (ss.take k++ [⟨f,g,[t]⟩]++ss.drop k) f' g' s↔inS ss f' g' s∨(f'=f∧g'=g∧s=t):=by
 have hd:ss=ss.take k++ss.drop k:=(List.take_append_drop k ss).symm
 have hmem: ∀x,x∈ss.take k++ [⟨f,g,[t]⟩]++ss.drop k↔x∈ss∨x=⟨f,g,[t]⟩:=by
  intro x;rw[List.mem_append,List.mem_append,List.mem_singleton];constructor
  ·rintro((hx|hx)|hx)
   ·exact .inl (List.mem_of_mem_take hx)
   ·exact .inr hx
   ·exact .inl (List.mem_of_mem_drop hx)
  ·rintro(hx|hx)
   ·rw[hd]at hx
    rcases List.mem_append.1 hx with hx|hx
    ·exact .inl (.inl hx)
    ·exact .inr hx
   ·exact .inl (.inr hx)
 constructor
 ·constructor
  ·have h0:=h.1
   rw[hd,List.pairwise_append]at h0;rw[List.pairwise_append,List.pairwise_append];refine⟨⟨h0.1,by simp,fun a ha b hb=> ?_⟩,h0.2.1,fun a ha b hb=> ?_⟩
   ·simp only[List.mem_singleton]at hb
    subst hb;exact h1 a ha
   ·rcases List.mem_append.1 ha with ha|ha
    ·exact h0.2.2 a ha b hb
    ·simp only[List.mem_singleton]at ha
     subst ha;exact h2 b hb
  ·intro x hx
   rcases(hmem x).1 hx with hx|rfl
   ·exact h.2 x hx
   ·exact⟨hf,hg,by simp[Asc],by simpa using ht⟩
 ·intro f' g' s
  constructor
  ·rintro⟨x,hx,rfl,rfl,hs⟩
   rcases(hmem x).1 hx with hx|rfl
   ·exact .inl ⟨x,hx,rfl,rfl,hs⟩
   ·simp only[List.mem_singleton]at hs
    exact .inr ⟨rfl,rfl,hs⟩
  ·rintro(⟨x,hx,rfl,rfl,hs⟩|⟨rfl,rfl,rfl⟩)
   ·exact⟨x,(hmem x).2 (.inl hx),rfl,rfl,hs⟩
   ·exact⟨_,(hmem _).2 (.inr rfl),rfl,rfl,by simp⟩
theorem zl3{ss:List St}{k:Nat}{x p:St}(h:WfS ss)(hk:ss[k]? =some x)(hp:ltS p x): ∀y∈ss.drop k,ltS p y:=by
 intro y hy;obtain⟨j,hj⟩:=List.mem_iff_getElem?.1 hy;rw[List.getElem?_drop]at hj;rcases Nat.eq_zero_or_pos j with rfl|hpos
 ·rw[Nat.add_zero,hk]at hj
  injection hj with hj;subst hj;exact hp
 ·obtain⟨h1,e1⟩:=List.getElem?_eq_some_iff.1 hk
  obtain⟨h2,e2⟩:=List.getElem?_eq_some_iff.1 hj;have:=List.pairwise_iff_getElem.1 h.1 k (k+j) h1 h2 (by omega);rw[e1,e2]at this;exact hp.trans this
theorem Tryz.elS:Elem Tryz.prog 31 158 (.agg #[.int .i64 0,.int .i64 0,.slice none 0 0]) 3 40:=⟨Tryz.underlying31,by kernel_rfl,rfl,by omega⟩
def yA:List (St×Value) ->List Value
 | []=> []
 |p::l=> .int .i64 p.1.f:: .int .i64 p.1.g::p.2::yA l
theorem ze2: ∀(l:List (St×Value)) (k:Nat) (p:St×Value),l[k]? =some p->(yA l)[k*3]? =some (.int .i64 p.1.f)∧(yA l)[k*3+1]? =some (.int .i64 p.1.g)∧(yA l)[k*3+2]? =some p.2
 | [],k,f,h=>by simp at h
 |g::l,0,f,h=>by
  simp only[List.getElem?_cons_zero,Option.some.injEq]at h;subst h;exact⟨rfl,rfl,rfl⟩
 |g::l,k+1,f,h=>by
  simp only[List.getElem?_cons_succ]at h;have:=ze2 l k f h;rw[show(k+1)*3=k*3+1+1+1 by omega];exact this
theorem qL: ∀(l m:List (St×Value)),yA (l++m)=yA l++yA m
 | [],m=>rfl
 |g::l,m=>by simp only[List.cons_append,yA,qL l m]
theorem zbo: ∀(l:List (St×Value)) (k:Nat),(yA l).take (k*3)=yA (l.take k)
 |l,0=>by simp[yA]
 | [],k+1=>by simp[yA]
 |g::l,k+1=>by
  rw[show(k+1)*3=k*3+1+1+1 by omega];simp only[yA,List.take_succ_cons,zbo l k]
theorem jO: ∀(l:List (St×Value)) (k:Nat),(yA l).drop (k*3)=yA (l.drop k)
 |l,0=>by simp
 | [],k+1=>by simp[yA]
 |g::l,k+1=>by
  rw[show(k+1)*3=k*3+1+1+1 by omega];simp only[yA,List.drop_succ_cons,jO l k]
theorem zcw: ∀(l:List (St×Value)) (k:Nat) (p:St×Value) (l':List Nat) (v:Value),l[k]? =some p->(yA l).set (k*3+2) v=yA (l.set k (⟨p.1.f,p.1.g,l'⟩,v))
 | [],k,p,l',v,h=>by simp at h
 |g::l,0,p,l',v,h=>by
  simp only[List.getElem?_cons_zero,Option.some.injEq]at h;subst h;simp[yA]
 |g::l,k+1,p,l',v,h=>by
  simp only[List.getElem?_cons_succ]at h;rw[show(k+1)*3+2=k*3+2+1+1+1 by omega];simp only[List.set_cons_succ,yA];rw[zcw l k p l' v h]
theorem zo0{w:World}{base n size:Nat}{v:Value}{e:TypeId}{xs:List Value}(h:w.ownsRow base e size v n xs):v.oneCell'=true:=by
 obtain⟨A,c,rfl,_⟩:=vm h;rfl
theorem yk{w:World}{base n size base' n' size' b:Nat}{v v':Value}{e e':TypeId}{xs xs':List Value}(h:w.ownsRow base e size v n xs)(h':w.ownsRow base' e' size' v' n' xs')(hne:e≠e')(hb:v.ownBlock=some b):v'.ownBlock≠some b:=by
 rcases h'.2 with⟨h0,_⟩|⟨k,cap,cur,hv2,r⟩
 ·subst h0;simp[Value.ownBlock]
 ·intro hb'
  have h2:=h';rw[hv2]at h2 hb';simp only[Value.ownBlock,Option.some.injEq]at hb';subst hb';exact zbl h h2 hne hb
structure SetO(w:World)(base:Nat)(A:Option Addr)(c:Nat)(ps:List (St×Value)):Prop where
 out:w.ownsRow base 158 3 (.slice A ps.length c) ps.length (yA ps)
 each: ∀p∈ps,xU w p.2 p.1.l
section
variable{w w':World} {base c:Nat} {A:Option Addr} {ps:List (St×Value)}
theorem SetO.one(h:SetO w base A c ps): ∀u∈yA ps,u.oneCell'=true:=by
 have h2:=h.each;clear h;induction ps with
 |nil=>intro u hu;simp[yA]at hu
 |cons p l ih=>
  intro u hu;simp only[yA,List.mem_cons]at hu;rcases hu with rfl|rfl|rfl|hu
  ·rfl
  ·rfl
  ·exact zo0 (h2 p List.mem_cons_self)
  ·exact ih (fun q hq=>h2 q (List.mem_cons_of_mem _ hq)) u hu
theorem SetO.ext(h:SetO w base A c ps)(he:Ext w w'):SetO w' base A c ps:=⟨zm h.out he,fun p hp=>(h.each p hp).ext he⟩
theorem SetO.base_(h:SetO w base A c ps){b:Nat}(hb:b<=base):SetO w b A c ps:=⟨zu h.out hb,h.each⟩
theorem SetO.at_(h:SetO w base A c ps){k:Nat}{p:St×Value}(hk:ps[k]? =some p): ∃g,A=some ⟨g,0,none⟩∧w.cell? ⟨g,k*3,none⟩=some (.int .i64 p.1.f)∧w.cell? ⟨g,k*3+1,none⟩=some (.int .i64 p.1.g)∧w.cell? ⟨g,k*3+2,none⟩=some p.2∧base<=g∧g<w.heap.size:=by
 have hl:=(List.getElem?_eq_some_iff.1 hk).1;obtain⟨g,rfl,h1,h2⟩:=yD h.out (by omega);obtain⟨f0,f1,f2⟩:=ze2 ps k p hk;have hc:=(zz h.out).1;exact⟨g,rfl,hc _ _ f0,hc _ _ f1,hc _ _ f2,h1,h2⟩
theorem SetO.push{A':Option Addr}{c' n:Nat}{p:St×Value}(h:SetO w base A c ps)(hp:xU w p.2 p.1.l)(hn:n=ps.length+1)
 (ho:w'.ownsRow base 158 3 (.slice A' n c') n (yA ps++ [.int .i64 p.1.f,.int .i64 p.1.g,p.2])) (hg:w.grownBy w' (Value.slice A ps.length c).ownBlock):SetO w' base A' c' (ps++ [p]):=by
 subst hn;have hB:=zL hg;have keep: ∀(v:Value) (l:List Nat),xU w v l->xU w' v l:=fun v l hv=>zo hv hB (fun b hb hm=>yk hv h.out (by decide) hb (Option.mem_toList.1 hm))
 refine⟨?_,fun q hq=> ?_⟩
 ·rw[qL,List.length_append]
  exact ho
 ·rcases List.mem_append.1 hq with hq|hq
  ·exact keep _ _ (h.each q hq)
  ·simp only[List.mem_singleton]at hq
   subst hq;exact keep _ _ hp
end
def zl4(w:World)(ss:List St)(r:Ending)(w':World):Prop:= ∃(ps:List (St×Value)) (A:Option Addr) (c:Nat),ps.map (·.1)=ss∧r= .returned (.slice A ps.length c)∧SetO w' w.heap.size A c ps∧Ext w w'
theorem zo1{N base size n:Nat}{e:TypeId}{v:Value}{xs:List Value}{w w':World}(hg:w.grownBy w' v.ownBlock)(_:w.ownsRow base e size v n xs):Bel N v.ownBlock.toList w w':=(zL hg).bel N
theorem j6(A0:Option Addr)(c0:Nat)(ps0:List (St×Value))(w:World)(h:SetO w 0 A0 c0 ps0)(hn:ps0.length<=10000)(hm: ∀p∈ps0,p.1.l.length<=100000):
 Calls Tryz.prog 62 #[.slice A0 ps0.length c0] w (zl4 w (ps0.map (·.1))):=by
 have Hm:=Lib.hid hm;clear hm;go_enter Tryz.func62,Tryz.ntmps62;go_wp2;go_loopw [3,8] (fun s i wr=> ∃(k:Nat) (ps:List (St×Value)) (A:Option Addr) (c:Nat),k<=ps0.length∧i= .int .i64 k∧s= .slice A ps.length c∧ps.map (·.1)=(ps0.take k).map (·.1)∧SetO wr w.heap.size A c ps∧Ext w wr) (fun _ i _=>ps0.length-(intOf i).toNat);case atStart=>exact⟨0,[],none,0,by omega,rfl,rfl,by simp,⟨zP _ _ _ _,by simp⟩,by exact jX⟩
 case round=>
  obtain⟨k,ps,A,c,hk,rfl,rfl,hps0,hO,hE⟩:=hrel
  have hpl:ps.length=k:=by
   have:=congrArg List.length hps0;simp only[List.length_map,List.length_take]at this;omega
  have hsz:=hE.size_le;by_cases hlt:k<ps0.length
  ·have hdec:decide ((k:Int)<ps0.length)=true:=by simp;omega
   have hdec':decide (k<ps0.length)=true:=by simp;omega
   have hkI:(k:Int)<ps0.length:=by omega
   obtain⟨p,hp⟩: ∃p,ps0[k]? =some p:=⟨_,List.getElem?_eq_getElem hlt⟩;obtain⟨g,rfl,f0,f1,f2,_,lg⟩:=(h.ext hE).at_ hp;have hsl0:=(h.ext hE).each p (List.mem_of_getElem? hp);obtain⟨P,pc,hv,hpc,_⟩:=vm hsl0;have hbl:=Hm.out p (List.mem_of_getElem? hp);unfold xU at hsl0;rw[hv]at f2 hsl0;have Hp:=Lib.hid hp;have Hps:=Lib.hid hps0;have Hpl:=Lib.hid hpl;have hpb:ps.length<=10000:=by omega
   clear hp hps0 hpl;have hout0:=hO.out;go_upto_region 5 with fail;have hEW:=Ext.alloc (Ext.refl wr) (.cells #[.int .i64 p.1.f,.int .i64 p.1.g,.slice P p.1.l.length pc] 158);have kB:Blk (wr.alloc (.cells #[.int .i64 p.1.f,.int .i64 p.1.g,.slice P p.1.l.length pc] 158)) wr.heap.size 158 #[.int .i64 p.1.f,.int .i64 p.1.g,.slice P p.1.l.length pc]:=Blk.new rfl;have hlO:=World.ownsRow.lt hout0;obtain⟨b5,hb5⟩: ∃b5,wr.heap.size=b5:=⟨_,rfl⟩;generalize wr.alloc (.cells #[.int .i64 p.1.f,.int .i64 p.1.g,.slice P p.1.l.length pc] 158)=W at hEW kB|-
   have hS:b5∉(Value.slice A ps.length c).ownBlock.toList:=fun hm=>by
    have:=(hlO b5 (Option.mem_toList.1 hm)).2;omega
   rw[hb5]at kB|-;have cB:=kB.cell;have lB:=kB.lt;have hown:=zm hout0 hEW;have hsl:=zm hsl0 hEW;have hzW:=(hE.trans hEW).size_le;refine zn (W.heap.size) (Value.slice A ps.length c).ownBlock.toList (.take 0 (.take 1 (.take 2 (.take 3 (.take 4 (.take 5 (.take 6 (.alt 7 (.take 8 (.alt 9 (.alt 10 (.take 11 .done) .none) .none)) .none)))))))) Tryz.mixed (by kernel_rfl) ?_;intro hx;iterate 7 (first|refine jTN hx ?_|refine jTS ?_)
   refine jCN hx (fun K hK=> ?_);refine yL Tryz.elI _ _ rfl rfl _ _ _ _ _ rfl ((Rd.of_own hsl).ext jX) (xj _) (by omega) (by omega) (Nat.le_refl _) ?_;intro B d w2 hB hE2;have hz2:=hE2.size_le;refine hK _ _ ((hE2).bel _) ?_;clear hK hx;intro hx;refine jp ?_;first|refine jTN hx ?_|refine jTS ?_
   refine jCN hx (fun K hK=> ?_);go_simp;first|refine hK _ _ jN ?_|refine hK undef _ jN ?_
   clear hK hx;intro hx;refine jp ?_;refine jCN hx (fun K hK=> ?_);refine zX Tryz.elS _ _ rfl w.heap.size _ _ _ rfl (zm hown jX) _ 1 1 _ rfl (yF _ [_,_,_] 158 1 3 rfl) (by simp[Value.oneCell']) (by omega) (by omega) (Nat.le_trans hzW hx.size) ?_;intro A2 c2 w3 hown3 hg3 hat3;have hps:=SetO.push (p:=(p.1,.slice B p.1.l.length d)) ((hO.ext hEW).ext jX) (zm (zu hB (Nat.zero_le _)) jX) rfl hown3 hg3;refine hK _ _ ((zo1 hg3 (zm hown jX))) ?_;clear hK hx;intro hx;refine jp ?_;first|refine jTN hx ?_|refine jTS ?_
   refine zi ?_;go_wp2;go_roundw
   case rel=>
    refine⟨k+1,_,A2,c2,by omega,by go_num,?_,?_,hps,But.ext (hE.trans hEW) (y8 (zY hx)) (fun x hx=>(hlO x (Option.mem_toList.1 hx)).1)⟩
    ·rw[List.length_append];rfl
    ·rw[List.take_add_one,Hp.out,List.map_append,List.map_append,Hps.out];rfl
   case measure=>simp[intOf];omega
  ·have hdec:decide ((k:Int)<ps0.length)=false:=by simp;omega
   have hdec':decide (k<ps0.length)=false:=by simp;omega
   have hke:k=ps0.length:=by omega
   rw[hke,List.take_length]at hps0;have Hps:=Lib.hid hps0;clear hps0 hpl;go_wp2;go_ret;exact⟨ps,A,c,Hps.out,rfl,hO,hE⟩
end Go.Proofs.YtopcdfbplknmlaaGreat
