/- Part of the proof of the claim: walks and plain laws; each theorem states its own conditions. -/
import Derived.Test.YtopcdfbplknmlaaGreatL
import Derived.Test.YtopcdfbplknmlaaGreatG27
set_option linter.all false
set_option maxHeartbeats 8000000
set_option maxRecDepth 100000
namespace Go.Proofs.YtopcdfbplknmlaaGreat
open Ieee
theorem zla{q m:Nat}(h:4503599627370496<=m)(h2:m<=9007199254740992):V (q*4503599627370496+m)=m*2^q:=by
 unfold V;rw[if_neg (by omega)];by_cases e:m=9007199254740992
 ·have e1:(q*4503599627370496+m)%4503599627370496=0:=by omega
  have e2:(q*4503599627370496+m)/4503599627370496-1=q+1:=by omega
  rw[e1,e2,Nat.pow_succ,Nat.add_zero,Nat.mul_comm (2^q) 2,<-Nat.mul_assoc,e]
 ·have e1:(q*4503599627370496+m)%4503599627370496=m-4503599627370496:=by omega
  have e2:(q*4503599627370496+m)/4503599627370496-1=q:=by omega
  rw[e1,e2,show 4503599627370496+(m-4503599627370496)=m by omega]
theorem zp6{m:Nat}(h:m<4503599627370496):V m=m:=by unfold V;rw[if_pos h]
def jk(mag k:Nat):Nat:=(k+mag.log2-52)*4503599627370496+Toward.even.cut false (mag<<<(k-(k+mag.log2-52))) ((k+mag.log2-52) -k)
theorem zib{mag k:Nat}(h:mag≠0):double.nearest false mag (-1074+(k:Int))=min (jk mag k) xC:=by
 have hb:double.binade=4503599627370496:=by decide
 have hi:double.infRung=9218868437227405312:=by decide
 have hf:double.fractionBits=52:=by decide
 unfold Format.nearest jk;rw[if_neg h,jV];simp only[lp,hb,hi,hf];generalize mag.log2=L;have e1:(max (-1074+(k:Int)+(L:Int) -(52:Nat)) (-1074) - -1074).toNat=k+L-52:=by omega
 have e2:(-1074+(k:Int) -max (-1074+(k:Int)+(L:Int) -(52:Nat)) (-1074)).toNat=k-(k+L-52):=by omega
 have e3:(max (-1074+(k:Int)+(L:Int) -(52:Nat)) (-1074) -(-1074+(k:Int))).toNat=k+L-52-k:=by omega
 rw[e1,e2,e3]
theorem zjg{n d:Nat}(hd:d<=n.log2+2):Toward.even.cut false n d=n/2^d+(decide (2^d<2*(n%2^d))||(2^d==2*(n%2^d)&&n/2^d%2==1)).toNat:=by
 simp only[Toward.cut,Nat.shiftLeft_eq,Nat.one_mul,Nat.min_eq_left hd]
theorem zgr{n:Nat}(h:n≠0):2^n.log2<=n∧n<2^(n.log2+1):=⟨Nat.log2_self_le h,Nat.lt_log2_self⟩
theorem zlb{mag k:Nat}(h:mag≠0):(∀y,mag*2^k<=V y->jk mag k<=y)∧(∀y,V y<=mag*2^k->y<=jk mag k):=by
 obtain⟨l1,l2⟩:=zgr h;unfold jk;generalize hL:mag.log2=L at*;by_cases hq:k+L-52<=k
 ·
  have e0:k+L-52-k=0:=by omega
  rw[e0,zgq,Nat.shiftLeft_eq]
  have hV:V ((k+L-52)*4503599627370496+mag*2^(k-(k+L-52)))=mag*2^k:=by
   have lt53:mag*2^(k-(k+L-52))<9007199254740992:=by
    have h1:mag*2^(k-(k+L-52))<2^(L+1)*2^(k-(k+L-52)):=Nat.mul_lt_mul_of_pos_right l2 (Nat.two_pow_pos _);rw[<-Nat.pow_add]at h1;have h2:2^(L+1+(k-(k+L-52)))<=2^53:=Nat.pow_le_pow_right (by omega) (by omega);have h3:(2:Nat)^53=9007199254740992:=by decide
    omega
   by_cases hz:k+L<52
   ·have e1:k+L-52=0:=by omega
    have h1:mag*2^k<2^(L+1)*2^k:=Nat.mul_lt_mul_of_pos_right l2 (Nat.two_pow_pos _);rw[<-Nat.pow_add]at h1;have h2:2^(L+1+k)<=2^52:=Nat.pow_le_pow_right (by omega) (by omega);have h3:(2:Nat)^52=4503599627370496:=by decide
    rw[e1,Nat.zero_mul,Nat.zero_add,Nat.sub_zero,zp6 (by omega)]
   ·have ge52:4503599627370496<=mag*2^(k-(k+L-52)):=by
     have h1:2^L*2^(k-(k+L-52))<=mag*2^(k-(k+L-52)):=Nat.mul_le_mul_right _ l1;rw[<-Nat.pow_add]at h1;have h2:2^52<=2^(L+(k-(k+L-52))):=Nat.pow_le_pow_right (by omega) (by omega);have h3:(2:Nat)^52=4503599627370496:=by decide
     omega
    rw[zla ge52 (by omega),Nat.mul_assoc,<-Nat.pow_add];congr 2;omega
  exact⟨fun y hy=>za9 (by rw[hV];exact hy),fun y hy=>za9 (by rw[hV];exact hy)⟩
 ·have hd:k+L-52-k<=mag.log2+2:=by omega
  have e1:k-(k+L-52)=0:=by omega
  rw[e1,Nat.shiftLeft_eq,Nat.pow_zero,Nat.mul_one,zjg hd];have e2:k+L-52-k=L-52:=by omega
  rw[e2];have e3:k+L-52=k+(L-52):=by omega
  rw[e3];have hg:=Nat.two_pow_pos (L-52)
  have hlow:4503599627370496<=mag/2^(L-52)∧mag/2^(L-52)<9007199254740992:=by
   have h3:(2:Nat)^52=4503599627370496:=by decide
   have h4:(2:Nat)^53=9007199254740992:=by decide
   constructor
   ·rw[Nat.le_div_iff_mul_le hg,<-h3,<-Nat.pow_add,show 52+(L-52)=L by omega];exact l1
   ·rw[Nat.div_lt_iff_lt_mul hg,<-h4,<-Nat.pow_add,show 53+(L-52)=L+1 by omega];exact l2
  have hdm:=Nat.div_add_mod mag (2^(L-52));have hmod:=Nat.mod_lt mag hg;have hpow:2^(k+(L-52))=2^(L-52)*2^k:=by rw[Nat.add_comm,Nat.pow_add]
  generalize 2^(L-52)=g at*;generalize mag/g=low at*;generalize mag%g=rest at*;generalize k+(L-52)=q at*;have pk:=Nat.two_pow_pos k;generalize 2^k=P at*;have hX1:low*(g*P)<=mag*P:=by rw[<-Nat.mul_assoc];exact Nat.mul_le_mul_right _ (by rw[Nat.mul_comm];omega)
  have hX2:mag*P<(low+1)*(g*P):=by
   rw[<-Nat.mul_assoc];refine Nat.mul_lt_mul_of_pos_right ?_ pk;rw[Nat.add_mul,Nat.mul_comm low g];omega
  have hX3:0<rest->low*(g*P)<mag*P:=fun hr=>by
   rw[<-Nat.mul_assoc];refine Nat.mul_lt_mul_of_pos_right ?_ pk;rw[Nat.mul_comm];omega
  have v0:V (q*4503599627370496+low)=low*(g*P):=by rw[zla hlow.1 (by omega),hpow]
  have v1:V (q*4503599627370496+(low+1))=(low+1)*(g*P):=by rw[zla (by omega) (by omega),hpow]
  cases hup:(decide (g<2*rest)||(g==2*rest&&low%2==1))with
  |false=>
   simp only[Bool.toNat_false,Nat.add_zero];refine⟨fun y hy=>za9 (by rw[v0];omega),fun y hy=> ?_⟩;have:y<q*4503599627370496+(low+1):=zed (by rw[v1];omega);omega
  |true=>
   have hr:0<rest:=by
    simp only[Bool.or_eq_true,decide_eq_true_eq,Bool.and_eq_true,beq_iff_eq]at hup;omega
   have:=hX3 hr;simp only[Bool.toNat_true];refine⟨fun y hy=> ?_,fun y hy=>za9 (by rw[v1];omega)⟩;have:q*4503599627370496+low<y:=zed (by rw[v0];omega);omega
structure RN(r num den:Nat):Prop where
 up:2*num<=(V r+V (r+1))*den
 upE:2*num=(V r+V (r+1))*den->r%2=0
 lo: ∀p,r=p+1->(V p+V r)*den<=2*num
 loE: ∀p,r=p+1->(V p+V r)*den=2*num->r%2=0
theorem RN.mono{r1 n1 d1 r2 n2 d2:Nat}(h1:RN r1 n1 d1)(h2:RN r2 n2 d2)(p1:0<d1)(p2:0<d2)(h:n1*d2<=n2*d1):r1<=r2:=by
 rcases Nat.lt_or_ge r2 r1 with hlt|hge
 ·exfalso
  obtain⟨p,rfl⟩: ∃p,r1=p+1:=⟨r1-1,by omega⟩;have a1:=h1.lo p rfl;have a2:=h2.up;have m1:V r2<=V p:=zrp (by omega);have m2:V (r2+1)<=V (p+1):=zrp (by omega);have b1:=Nat.mul_le_mul_right d1 a2;have b2:=Nat.mul_le_mul_right d2 a1
  have b3:(V r2+V (r2+1))*d2*d1<=(V p+V (p+1))*d1*d2:=by
   rw[Nat.mul_assoc,Nat.mul_assoc,Nat.mul_comm d2 d1];exact Nat.mul_le_mul_right _ (by omega)
  have c1:2*n2*d1=2*(n2*d1):=Nat.mul_assoc _ _ _;have c2:2*n1*d2=2*(n1*d2):=Nat.mul_assoc _ _ _;rw[c1]at b1;rw[c2]at b2;have e1:(V r2+V (r2+1))*d2*d1=2*(n2*d1):=by omega
  have e2:(V p+V (p+1))*d1*d2=2*(n1*d2):=by omega
  have e3:(V r2+V (r2+1))*d2*d1=(V p+V (p+1))*d1*d2:=by omega
  have f1:2*n2=(V r2+V (r2+1))*d2:=Nat.eq_of_mul_eq_mul_right p1 (by rw[c1,e1]);have f2:(V p+V (p+1))*d1=2*n1:=Nat.eq_of_mul_eq_mul_right p2 (by rw[c2,e2]);have g1:=h2.upE f1;have g2:=h1.loE p rfl f2
  have e4:V r2+V (r2+1)=V p+V (p+1):=by
   rw[Nat.mul_assoc,Nat.mul_assoc,Nat.mul_comm d2 d1]at e3;exact Nat.eq_of_mul_eq_mul_right (Nat.mul_pos p1 p2) e3
  have:r2=p:=by
   rcases Nat.lt_or_ge r2 p with q|q
   ·have:=zh8 q;omega
   ·omega
  omega
 ·exact hge
theorem zp7{D s Y n k:Nat}(hn:0<n)(hD:D=Y/n)(hs:s=(Y%n !=0).toNat)(hD2:9007199254740992<=D):RN (jk (2*D+s) k) (Y*2^(k+1)) n:=by
 have hs1:s<=1:=by subst hs;cases(Y%n !=0)<;>simp
 have hmag:2*D+s≠0:=by omega
 obtain⟨l1,l2⟩:=zgr hmag
 have hL:54<=(2*D+s).log2:=by
  rcases Nat.lt_or_ge (2*D+s).log2 54 with h|h
  ·have h1:=Nat.pow_le_pow_right (show 0<2 by omega) (show(2*D+s).log2+1<=54 by omega)
   have h2:(2:Nat)^54=18014398509481984:=by decide
   omega
  ·exact h
 unfold jk;generalize hLL:(2*D+s).log2=L at*;have e0:k-(k+L-52)=0:=by omega
 have hd:k+L-52-k<=(2*D+s).log2+2:=by omega
 rw[e0,Nat.shiftLeft_eq,Nat.pow_zero,Nat.mul_one,zjg hd];have e2:k+L-52-k=L-52:=by omega
 have e3:k+L-52=k+(L-52):=by omega
 rw[e2,e3];have hg:=Nat.two_pow_pos (L-52)
 have hlow:4503599627370496<=(2*D+s)/2^(L-52)∧(2*D+s)/2^(L-52)<9007199254740992:=by
  have h3:(2:Nat)^52=4503599627370496:=by decide
  have h4:(2:Nat)^53=9007199254740992:=by decide
  constructor
  ·rw[Nat.le_div_iff_mul_le hg,<-h3,<-Nat.pow_add,show 52+(L-52)=L by omega];exact l1
  ·rw[Nat.div_lt_iff_lt_mul hg,<-h4,<-Nat.pow_add,show 53+(L-52)=L+1 by omega];exact l2
 have hdm:=Nat.div_add_mod (2*D+s) (2^(L-52));have hmod:=Nat.mod_lt (2*D+s) hg;have hpow:2^(k+(L-52))=2^(L-52)*2^k:=by rw[Nat.add_comm,Nat.pow_add]
 have hg4:2^(L-52)=4*2^(L-54):=by
  rw[show L-52=2+(L-54) by omega,Nat.pow_add]
 have hh:=Nat.two_pow_pos (L-54);generalize 2^(L-52)=g at*;generalize 2^(L-54)=h at*;generalize(2*D+s)/g=low at*;generalize(2*D+s)%g=rest at*;generalize k+(L-52)=q at*;have pk:=Nat.two_pow_pos k;have hk1:2^(k+1)=2*2^k:=by rw[Nat.pow_succ,Nat.mul_comm]
 rw[hk1];generalize 2^k=P at*;subst hg4;clear l1 l2 hL hLL e0 hd e2 e3
 obtain⟨t,ht⟩: ∃t,rest=2*t+s:=by
  refine⟨D-2*(h*low),?_⟩;rw[Nat.mul_assoc]at hdm;omega
 have hDt:D=2*(h*low)+t:=by
  rw[Nat.mul_assoc]at hdm;omega
 have hYd:=Nat.div_add_mod Y n;have hYm:=Nat.mod_lt Y hn;rw[<-hD]at hYd
 have hs0:Y%n=0↔s=0:=by
  subst hs;by_cases e:Y%n=0
  ·simp[e]
  ·simp[e]
 generalize Y%n=ρ at*
 have hY:Y=2*(low*(h*n))+t*n+ρ:=by
  rw[<-hYd,hDt,Nat.mul_add,Nat.mul_comm n t];congr 2;rw[Nat.mul_left_comm,Nat.mul_comm h low,Nat.mul_left_comm n low h,Nat.mul_comm n h]
 have hA:0<h*n:=Nat.mul_pos hh hn;have hC: ∀x,t<=x->t*n<=x*n:=fun x hx=>Nat.mul_le_mul_right _ hx
 have hC2: ∀x,x<=t->x*n<=t*n:=fun x hx=>Nat.mul_le_mul_right _ hx
 have vA: ∀m,4503599627370496<=m->m<=9007199254740992->V (q*4503599627370496+m)*n=4*(m*(h*n))*P:=fun m h1 h2=>by
  rw[zla h1 h2,hpow]
  rw[show m*(4*h*P)*n=4*(m*(h*n))*P by
   rw[Nat.mul_assoc 4 h P,Nat.mul_left_comm m 4,Nat.mul_assoc 4 (m*(h*P)) n,Nat.mul_assoc 4 (m*(h*n)) P];congr 1;rw[Nat.mul_assoc m (h*P) n,Nat.mul_assoc m (h*n) P];congr 1;rw[Nat.mul_right_comm]]
 have up: ∀K,Y<=2*(K*(h*n))+h*n->2*(Y*(2*P))<=4*(K*(h*n))*P+4*((K+1)*(h*n))*P:=fun K hK=>by
  have h1:=Nat.mul_le_mul_right P hK;rw[Nat.add_mul,Nat.mul_assoc 2]at h1;rw[Nat.mul_left_comm Y 2 P,Nat.mul_assoc 4,Nat.mul_assoc 4,Nat.add_mul K 1,Nat.one_mul,Nat.add_mul];omega
 have upS: ∀K,Y<2*(K*(h*n))+h*n->2*(Y*(2*P))<4*(K*(h*n))*P+4*((K+1)*(h*n))*P:=fun K hK=>by
  have h1:=Nat.mul_lt_mul_of_pos_right hK pk;rw[Nat.add_mul,Nat.mul_assoc 2]at h1;rw[Nat.mul_left_comm Y 2 P,Nat.mul_assoc 4,Nat.mul_assoc 4,Nat.add_mul K 1,Nat.one_mul,Nat.add_mul];omega
 have lo: ∀K,2*(K*(h*n))+h*n<=Y->4*(K*(h*n))*P+4*((K+1)*(h*n))*P<=2*(Y*(2*P)):=fun K hK=>by
  have h1:=Nat.mul_le_mul_right P hK;rw[Nat.add_mul,Nat.mul_assoc 2]at h1;rw[Nat.mul_left_comm Y 2 P,Nat.mul_assoc 4,Nat.mul_assoc 4,Nat.add_mul K 1,Nat.one_mul,Nat.add_mul];omega
 have loS: ∀K,2*(K*(h*n))+h*n<Y->4*(K*(h*n))*P+4*((K+1)*(h*n))*P<2*(Y*(2*P)):=fun K hK=>by
  have h1:=Nat.mul_lt_mul_of_pos_right hK pk;rw[Nat.add_mul,Nat.mul_assoc 2]at h1;rw[Nat.mul_left_comm Y 2 P,Nat.mul_assoc 4,Nat.mul_assoc 4,Nat.add_mul K 1,Nat.one_mul,Nat.add_mul];omega
 have htl:t<2*h:=by omega
 have hKn:t*n+n<=2*(h*n):=by
  have:=Nat.mul_le_mul_right n (show t+1<=2*h by omega);rw[Nat.add_mul,Nat.one_mul,Nat.mul_assoc]at this;exact this
 cases hup:(decide (4*h<2*rest)||(4*h==2*rest&&low%2==1))with
 |false=>
  simp only[Bool.or_eq_false_iff,decide_eq_false_iff_not,Bool.and_eq_false_iff,beq_eq_false_iff_ne]at hup;obtain⟨u1,u2⟩:=hup;simp only[Bool.toNat_false,Nat.add_zero]
  have hup:Y<=2*(low*(h*n))+h*n∧(Y=2*(low*(h*n))+h*n->low%2=0):=by
   by_cases e:s=0
   ·have r0:=hs0.2 e
    have:=hC h (by omega);refine⟨by omega,fun he=> ?_⟩;have:t=h:=Nat.eq_of_mul_eq_mul_right hn (by omega);omega
   ·have h1:=Nat.mul_le_mul_right n (show t+1<=h by omega)
    rw[Nat.add_mul,Nat.one_mul]at h1;exact⟨by omega,fun he=>by omega⟩
  have vK:=vA low hlow.1 (by omega);have vK1:=vA (low+1) (by omega) (by omega);refine⟨?_,?_,?_,?_⟩
  ·rw[Nat.add_mul,vK,Nat.add_assoc,vK1]
   exact up low hup.1
  ·rw[Nat.add_mul,vK,Nat.add_assoc,vK1]
   intro he;have: ¬Y<2*(low*(h*n))+h*n:=fun hlt=>by have:=upS low hlt;omega
   have:=hup.2 (by omega);omega
  ·intro p hp
   by_cases e:low=4503599627370496
   ·have h1:=Nat.mul_le_mul_right n (Nat.le_of_lt (zh8 (show p<q*4503599627370496+low by omega)))
    rw[Nat.add_mul];rw[vK]at h1|-;have h2:=Nat.mul_le_mul_right P (show 2*(low*(h*n))<=Y by omega);rw[Nat.mul_assoc 2]at h2;rw[Nat.mul_left_comm Y 2 P,Nat.mul_assoc 4];rw[Nat.mul_assoc 4]at h1;omega
   ·obtain rfl:p=q*4503599627370496+(low-1):=by omega
    have vp:=vA (low-1) (by omega) (by omega)
    have hl:=lo (low-1) (by
     have:(low-1)*(h*n)+h*n=low*(h*n):=by
      rw[<-Nat.succ_mul];congr 1;omega
     omega)
    rw[show low-1+1=low by omega]at hl;rw[Nat.add_mul,vp,vK];exact hl
  ·intro p hp he
   by_cases e:low=4503599627370496
   ·omega
   ·exfalso
    obtain rfl:p=q*4503599627370496+(low-1):=by omega
    have vp:=vA (low-1) (by omega) (by omega)
    have hl:=loS (low-1) (by
     have:(low-1)*(h*n)+h*n=low*(h*n):=by
      rw[<-Nat.succ_mul];congr 1;omega
     omega)
    rw[show low-1+1=low by omega]at hl;rw[Nat.add_mul,vp,vK]at he;omega
 |true=>
  simp only[Bool.or_eq_true,decide_eq_true_eq,Bool.and_eq_true,beq_iff_eq]at hup;simp only[Bool.toNat_true]
  have hlo:2*(low*(h*n))+h*n<=Y∧(2*(low*(h*n))+h*n=Y->low%2=1):=by
   have:=hC2 h (by omega);refine⟨by omega,fun he=> ?_⟩;rcases hup with u|u
   ·exfalso
    have r0:ρ=0:=by omega
    have:=hs0.1 r0;have h1:=Nat.mul_le_mul_right n (show h+1<=t by omega);rw[Nat.add_mul,Nat.one_mul]at h1;omega
   ·exact u.2
  have hA1:(low+1)*(h*n)=low*(h*n)+h*n:=by rw[Nat.add_mul,Nat.one_mul]
  have vK:=vA low hlow.1 (by omega);have vK1:=vA (low+1) (by omega) (by omega)
  have hbig:4*((low+1)*(h*n))*P+4*((low+1+1)*(h*n))*P<=(V (q*4503599627370496+(low+1))+V (q*4503599627370496+(low+1)+1))*n:=by
   rw[Nat.add_mul (V _) (V _) n,vK1];refine Nat.add_le_add_left ?_ _;by_cases e:low+2<=9007199254740992
   ·have:=vA (low+2) (by omega) e
    rw[show q*4503599627370496+(low+1)+1=q*4503599627370496+(low+2) by omega,this];exact Nat.le_refl _
   ·have e1:q*4503599627370496+(low+1)+1=(q+1)*4503599627370496+4503599627370497:=by omega
    have hq1:(2:Nat)^(q+1)=2*(4*h*P):=by rw[Nat.pow_succ,hpow,Nat.mul_comm]
    rw[e1,zla (by omega) (by omega),hq1];have e2:low+1+1=9007199254740993:=by omega
    rw[e2]
    have e3:4503599627370497*(2*(4*h*P))*n=4*(9007199254740994*(h*n))*P:=by
     rw[show 4503599627370497*(2*(4*h*P))*n=9007199254740994*4*(h*P*n) by
      rw[<-Nat.mul_assoc 4503599627370497 2,Nat.mul_assoc 4 h P,<-Nat.mul_assoc _ 4 (h*P),Nat.mul_assoc _ (h*P) n]]
     rw[Nat.mul_right_comm h P n,Nat.mul_comm 9007199254740994 4,Nat.mul_assoc 4 9007199254740994,<-Nat.mul_assoc 9007199254740994 (h*n) P,<-Nat.mul_assoc 4]
    rw[e3];exact Nat.mul_le_mul_right _ (Nat.mul_le_mul_left _ (Nat.mul_le_mul_right _ (by omega)))
  have hst:=upS (low+1) (by omega);refine⟨by omega,fun he=>by omega,?_,?_⟩
  ·intro p hp
   obtain rfl:p=q*4503599627370496+low:=by omega
   rw[Nat.add_mul,vK,vK1];exact lo low hlo.1
  ·intro p hp he
   obtain rfl:p=q*4503599627370496+low:=by omega
   rw[Nat.add_mul,vK,vK1]at he;have: ¬2*(low*(h*n))+h*n<Y:=fun hlt=>by have:=loS low hlt;omega
   have:=hlo.2 (by omega);omega
theorem zoc{T:Nat}(hT:T=1074){a b:Nat}(ha0:0<a)(ha:a<=1099511627776)(hb0:0<b)(hb:b<=1099511627776):
 ∃num den,0<den∧RN (vO a b) num den∧num*b=a*2^T*den∧vO a b<xC:=by
 obtain⟨a1,a2⟩:=qC ha0 ha;obtain⟨b1,b2⟩:=qC hb0 hb;have ea:=kW ha0 ha;have eb:=kW hb0 hb;have ra:=vP ha0 ha;have rb:=vP hb0 hb;have hpa:a*2^(52-a.log2)*2^a.log2=a*2^52:=by rw[Nat.mul_assoc,<-Nat.pow_add,show 52-a.log2+a.log2=52 by omega]
 have hpb:b*2^(52-b.log2)*2^b.log2=b*2^52:=by rw[Nat.mul_assoc,<-Nat.pow_add,show 52-b.log2+b.log2=52 by omega]
 have hla:(a*2^(52-a.log2)).log2=52:=(Nat.log2_eq_iff (by omega)).2 ⟨a1,a2⟩;have hlb:(b*2^(52-b.log2)).log2=52:=(Nat.log2_eq_iff (by omega)).2 ⟨b1,b2⟩
 have hk:vO a b=min (jk (2*((a*2^(52-a.log2))*2^54/(b*2^(52-b.log2)))+((a*2^(52-a.log2))*2^54%(b*2^(52-b.log2)) !=0).toNat) (1019+a.log2-b.log2)) xC:=by
  have hD:9007199254740992<=(a*2^(52-a.log2))*2^54/(b*2^(52-b.log2)):=by
   rw[Nat.le_div_iff_mul_le (by omega)];have:(2:Nat)^54=18014398509481984:=by decide
   omega
  unfold vO Format.div;rw[ra,rb];simp only[Datum.quotient,hla,hlb];rw[if_neg (by omega)];have e1:double.fractionBits+2+52-52=54:=by decide
  simp only[Option.map_some,e1,Format.write,Nat.shiftLeft_eq];have e2:((a.log2:Int) -52-((b.log2:Int) -52) -(54:Nat) -1)= -1074+((1019+a.log2-b.log2:Nat):Int):=by omega
  rw[show(false^^false)=false from rfl,e2,zib (by omega)]
 generalize hm:a*2^(52-a.log2)=m at*;generalize hn:b*2^(52-b.log2)=n at*
 have hD:9007199254740992<=m*2^54/n:=by
  rw[Nat.le_div_iff_mul_le (by omega)];have:(2:Nat)^54=18014398509481984:=by decide
  omega
 have hrn:=zp7 (k:=1019+a.log2-b.log2) (show 0<n by omega) rfl rfl hD
 have hfin:jk (2*(m*2^54/n)+(m*2^54%n !=0).toNat) (1019+a.log2-b.log2)<xC:=by
  have hs1:(m*2^54%n !=0).toNat<=1:=by cases(m*2^54%n !=0)<;>simp
  have hD2:m*2^54/n<36028797018963968:=by
   rw[Nat.div_lt_iff_lt_mul (by omega)];have:(2:Nat)^54=18014398509481984:=by decide
   omega
  obtain⟨K,hK⟩: ∃K,K=1065:=⟨_,rfl⟩
  have h1:=(zlb (k:=1019+a.log2-b.log2) (show 2*(m*2^54/n)+(m*2^54%n !=0).toNat≠0 by omega)).1 ((K+5)*4503599627370496+4503599627370496) (by
   rw[zla (Nat.le_refl _) (by omega)];have h2:2^(1019+a.log2-b.log2)<=2^K:=Nat.pow_le_pow_right (by omega) (by omega);have h3:2^57*2^K=2^52*2^(K+5):=by rw[<-Nat.pow_add,<-Nat.pow_add];congr 1;omega
   have h4:(2:Nat)^52=4503599627370496:=by decide
   have h5:(2:Nat)^57=144115188075855872:=by decide
   rw[h4,h5]at h3;have h6:2*(m*2^54/n)+(m*2^54%n !=0).toNat<=144115188075855872:=by omega
   exact Nat.le_trans (Nat.mul_le_mul h6 h2) (Nat.le_of_eq h3))
  have:xC=9218868437227405312:=rfl;omega
 rw[hk,Nat.min_eq_left (Nat.le_of_lt hfin)];refine⟨_,_,by omega,hrn,?_,hfin⟩
 have hx:m*2^54*2^(1019+a.log2-b.log2+1)*b*2^52=a*2^T*n*2^52:=by
  rw[Nat.mul_assoc _ b,<-hpb];rw[show a*2^T*n*2^52=a*2^52*(2^T*n) by rw[Nat.mul_right_comm,Nat.mul_right_comm a,Nat.mul_assoc]];rw[<-hpa]
  rw[show m*2^54*2^(1019+a.log2-b.log2+1)*(n*2^b.log2)=m*n*(2^54*2^(1019+a.log2-b.log2+1)*2^b.log2) by
   rw[Nat.mul_assoc m,<-Nat.mul_assoc (m*_) n,Nat.mul_right_comm m _ n,Nat.mul_assoc (m*n)]]
  rw[show m*2^a.log2*(2^T*n)=m*n*(2^T*2^a.log2) by
   rw[Nat.mul_assoc m,<-Nat.mul_assoc (2^a.log2),Nat.mul_comm (2^a.log2*2^T) n,<-Nat.mul_assoc,Nat.mul_comm (2^a.log2)]]
  refine congrArg (m*n* ·) ?_;rw[<-Nat.pow_add,<-Nat.pow_add,<-Nat.pow_add];refine congrArg (2^ ·) ?_;omega
 exact Nat.eq_of_mul_eq_mul_right (Nat.two_pow_pos 52) hx
theorem zod{b:Nat}(hb0:0<b)(hb:b<=1099511627776):vO 0 b=0:=by
 obtain⟨b1,b2⟩:=qC hb0 hb;unfold vO Format.div;rw[show((0:Nat):Int)=0 from rfl,zam,zan,vP hb0 hb];simp only[Datum.quotient];rw[if_neg (by omega)];simp only[Option.map_some,Format.write,Nat.shiftLeft_eq,Nat.zero_mul,Nat.zero_div,Nat.zero_mod,bne_self_eq_false,Bool.toNat_false];unfold Format.nearest;rw[if_pos rfl,jV]
theorem zoe{a b c d:Nat}(ha:a<=1099511627776)(hb0:0<b)(hb:b<=1099511627776)(hc:c<=1099511627776)(hd0:0<d)(hd:d<=1099511627776)(h:a*d<=c*b):vO a b<=vO c d:=by
 rcases Nat.eq_zero_or_pos a with h0|h0
 ·subst h0;rw[zod hb0 hb];exact Nat.zero_le _
 ·have hc0:0<c:=by
   rcases Nat.eq_zero_or_pos c with e|e
   ·subst e;have:=Nat.mul_pos h0 hd0;omega
   ·exact e
  obtain⟨T,hT⟩: ∃T,T=1074:=⟨_,rfl⟩;obtain⟨n1,d1,p1,r1,e1,_⟩:=zoc hT h0 ha hb0 hb;obtain⟨n2,d2,p2,r2,e2,_⟩:=zoc hT hc0 hc hd0 hd;refine r1.mono r2 p1 p2 ?_
  have key:n1*d2*(b*d)<=n2*d1*(b*d):=by
   have l:n1*d2*(b*d)=a*d*(2^T*(d1*d2)):=by
    rw[Nat.mul_mul_mul_comm,e1];simp only[Nat.mul_assoc,Nat.mul_left_comm,Nat.mul_comm]
   have r:n2*d1*(b*d)=c*b*(2^T*(d1*d2)):=by
    rw[Nat.mul_comm b d,Nat.mul_mul_mul_comm,e2];simp only[Nat.mul_assoc,Nat.mul_left_comm,Nat.mul_comm]
   rw[l,r];exact Nat.mul_le_mul_right _ h
  exact Nat.le_of_mul_le_mul_right key (Nat.mul_pos hb0 hd0)
end Go.Proofs.YtopcdfbplknmlaaGreat
namespace Go.Proofs.YtopcdfbplknmlaaGreat
open Go.RowKit Go.Draw
theorem zee(w:World)(a b:Int)(r:Nat)(h:Ieee.double.div (FloatKind.f64.nearest a) (FloatKind.f64.nearest b)=some r):
 (binOp .quo 46 (.float .f64 (floatOfInt .f64 a)) (.float .f64 (floatOfInt .f64 b))).run Tryz.prog w= .ok (.float .f64 r) w:=
 run_float_arith w .quo 46 .f64 _ _ r h
theorem zef(w:World)(a b:Int)(h:Ieee.double.div (FloatKind.f64.nearest a) (FloatKind.f64.nearest b)=none):
 ∃r,zh9 r∧(binOp .quo 46 (.float .f64 (floatOfInt .f64 a)) (.float .f64 (floatOfInt .f64 b))).run Tryz.prog w= .ok (.float .f64 r) w.drew:=by
 have h':Ieee.Format.div FloatKind.f64.format (floatOfInt .f64 a) (floatOfInt .f64 b)=none:=h;refine⟨_,zp4 (w.tape w.drawn (.nanBits .f64 (floatOfInt .f64 a) (floatOfInt .f64 b))),?_⟩;have e:binOp .quo 46 (.float .f64 (floatOfInt .f64 a)) (.float .f64 (floatOfInt .f64 b))=Op.floatArith .quo .f64 (floatOfInt .f64 a) (floatOfInt .f64 b):=rfl;rw[e];generalize floatOfInt .f64 a=x at*;generalize floatOfInt .f64 b=y at*;unfold Op.floatArith;simp only[h'];rfl
def Ct(x:Int):Prop:=0<=x∧x<=1099511627776
theorem zdp(a b:Int)(w:World)(ha:Ct a)(hb:Ct b):
 Calls Tryz.prog 11 #[.int .i64 a,.int .i64 b] w fun e w'=> ∃r,e= .returned (.float .f64 r)∧Is (vO a.toNat b.toNat) r∧Ext w w':=by
 obtain⟨a0,a1⟩:=ha;obtain⟨b0,b1⟩:=hb;obtain⟨m,rfl⟩: ∃m:Nat,a=(m:Int):=⟨a.toNat,by omega⟩;obtain⟨n,rfl⟩: ∃n:Nat,b=(n:Int):=⟨b.toNat,by omega⟩;have d1:decide ((m:Int)<0)=false:=by simp
 have d2:decide ((n:Int)<0)=false:=by simp
 have d3:decide ((1099511627776:Int)<m)=false:=by simp;omega
 have d3':decide (1099511627776<m)=false:=by simp;omega
 have d4:decide ((1099511627776:Int)<n)=false:=by simp;omega
 have d4':decide (1099511627776<n)=false:=by simp;omega
 simp only[Int.toNat_natCast];rcases zk9 m n (by omega) (by omega)with⟨h,hk⟩|⟨r,h,hk,hr⟩
 ·obtain⟨r,hr,hrun⟩:=zef w m n h
  have Hk:=Lib.hid hk;clear h hk;go_enter Tryz.func11,Tryz.ntmps11;go_wp2;go_ret;exact⟨r,rfl,.inr ⟨Hk.out,hr⟩,by exact jX⟩
 ·have hrun:=zee w m n r h
  have Hk:=Lib.hid hk;clear h hk;go_enter Tryz.func11,Tryz.ntmps11;go_wp2;go_ret;exact⟨r,rfl,.inl ⟨by rw[Hk.out];exact hr,Hk.out.symm⟩,by exact jX⟩
def st9(x0 x1 x2 x3 x4 x5 x6 x7 x8:Int):Array Value:= #[.int .i64 x0,.int .i64 x1,.int .i64 x2,.int .i64 x3,.int .i64 x4,.int .i64 x5,.int .i64 x6,.int .i64 x7,.int .i64 x8]
theorem zgs(x0 x1 x2 x3 x4 x5 x6 x7 x8:Int)(w:World)(h5:Ct x5)(h6:Ct x6):
 Calls Tryz.prog 6 #[.agg (st9 x0 x1 x2 x3 x4 x5 x6 x7 x8)] w fun e w'=> ∃r,e= .returned (.float .f64 r)∧Is (vO x6.toNat x5.toNat) r∧Ext w w':=by
 simp only[st9];go_enter Tryz.func6,Tryz.ntmps6;go_wp2_with(first|(go_at_call 11;refine(zdp _ _ _ h6 h5).mono ?_;rintro e w1 ⟨r,rfl,hr,hE⟩));go_ret;exact⟨r,rfl,hr,by exact jX⟩
theorem zlc(w:World):Calls Tryz.prog 12 #[.agg #[.int .i64 2,.int .i64 0,.int .i64 0,.int .i64 0,.int .i64 0,.int .i64 0,.int .i64 0,.int .i64 0,.int .i64 1]] w fun e w'=>e= .returned (.float .f64 4602678819172646912)∧Ext w w':=by
 have h6:Ct 1:=⟨by omega,by omega⟩;have h5:Ct 2:=⟨by omega,by omega⟩;go_enter Tryz.func12,Tryz.ntmps12;go_wp2_with(first|(go_at_call 11;refine(zdp _ _ _ h6 h5).mono ?_;rintro e w1 ⟨r,rfl,hr,hE⟩));have hk:vO (1:Int).toNat (2:Int).toNat=4602678819172646912:=zsi;rw[hk]at hr;rcases hr with⟨h,rfl⟩|⟨h,_⟩
 ·go_ret
  exact⟨rfl,by exact jX⟩
 ·exact absurd h (by decide)
theorem zof(w:World):Calls Tryz.prog 13 #[.slice none 0 0] w fun e w'=>e= .returned (.int .i64 (-1))∧Ext w w':=by
 go_enter Tryz.func13,Tryz.ntmps13;go_wp2;go_loopw [3,8] (fun bs i wr=>bs= .int .i64 (-1)∧i= .int .i64 0∧Ext w wr) (fun _ i _=>0);case atStart=>exact⟨rfl,rfl,by exact jX⟩
 case round=>
  obtain⟨rfl,rfl,hE⟩:=hrel;have q:decide ((0:Int)<0)=false:=by decide
  go_wp2;go_ret;exact⟨rfl,by exact jX⟩
theorem zog{x:Nat}(hx:x<=xC):FloatKind.f64.format.order x x=some .eq:=by
 have:=j2 hx hx;rwa[show compare x x= .eq by simp[compare,compareOfLessAndEq]]at this
theorem zrq{x y:Nat}(hx:x<=xC)(hy:y<=xC)(h:x<y):FloatKind.f64.format.order x y=some .lt:=by
 have:=j2 hx hy;rwa[show compare x y= .lt by simp only[compare,compareOfLessAndEq,if_pos h]]at this
theorem zrr{x y:Nat}(hx:x<=xC)(hy:y<=xC)(h:y<x):FloatKind.f64.format.order x y=some .gt:=by
 have:=j2 hx hy;rwa[show compare x y= .gt by simp only[compare,compareOfLessAndEq];rw[if_neg (by omega),if_neg (by omega)]]at this
theorem zao(x:Nat)(w:World)(hx:zh9 x):Calls Tryz.prog 7 #[.float .f64 x] w fun e w'=>e= .returned (.bool true)∧w=w':=by
 have o:FloatKind.f64.format.order x x=none:=vd hx x;go_enter Tryz.func7,Tryz.ntmps7;go_wp2;go_ret;exact⟨rfl,rfl⟩
theorem zoh(x0 x1 x2 x3 x4 x7 x8:Int)(w:World):Calls Tryz.prog 6 #[.agg (st9 x0 x1 x2 x3 x4 0 0 x7 x8)] w fun e w'=> ∃r,e= .returned (.float .f64 r)∧zh9 r∧Ext w w':=by
 refine(zgs x0 x1 x2 x3 x4 0 0 x7 x8 w ⟨by omega,by omega⟩ ⟨by omega,by omega⟩).mono ?_;rintro e w' ⟨r,rfl,hr,hE⟩;refine⟨r,rfl,?_,hE⟩;have hk:vO (0:Int).toNat (0:Int).toNat=xC+1:=zqo;rcases hr with⟨h,_⟩|⟨_,h⟩
 ·rw[hk]at h;omega
 ·exact h
theorem zdq(w:World):Calls Tryz.prog 8 #[] w fun r w'=>r= .returned (.bool true)∧Ext w w':=by
 have hh:FloatKind.f64.format.order 4602678819172646912 4602678819172646912=some .eq:=by decide+kernel
 go_enter Tryz.func8,Tryz.ntmps8;go_wp2_with(first|(go_at_call 6;refine(zoh 0 0 0 0 0 0 0 _).mono ?_;rintro e w1 ⟨r,rfl,hr,hE1⟩)|(go_at_call 7;refine(zao _ _ hr).mono ?_;rintro e w1 ⟨rfl,rfl⟩)|(go_at_call 12;refine(zlc _).mono ?_;rintro e w1 ⟨rfl,hE2⟩)|(go_at_call 13;refine(zof _).mono ?_;rintro e w1 ⟨rfl,hE3⟩));go_ret;exact⟨rfl,by exact jX⟩
theorem zp8{a b:Nat}(h0:0<b)(hab:a<=b)(hb:b<=1099511627776):vO a b<=4607182418800017408:=by
 have h1:vO 1 1=4607182418800017408:=by decide+kernel
 have:=zoe (a:=a) (b:=b) (c:=1) (d:=1) (by omega) h0 hb (by omega) (by omega) (by omega) (by omega);omega
def zse(w:World)(d:Nat)(r:Ending)(w':World):Prop:= ∃(P:Hpl) (M:Hmm) (A B C:Option Addr) (a b c:Nat) (g:Mo.Gr) (N Bs:Nat) (I:List In),r= .returned (.tuple #[.agg (ze P M),.agg #[.slice A g.ns.length a,.slice B g.us.length b,.slice C g.rs.length c]])∧HO w' 0 P M∧Ap P M∧N<=16384∧Hv N P Bs I∧P.dead=false∧Mo.GRx [] w' (.agg #[.slice A g.ns.length a,.slice B g.us.length b,.slice C g.rs.length c]) g∧Mo.Vld g∧Dk w' d∧But [d] w w'
attribute [local go_sem↓] yg yx in
theorem zrs{Q:Ending->World->Prop}{a:Act}{W:World}{g4 g5:Nat}{xs:Array Value}{x y z:Value}(hd:a.defers= [])(h4:a.tmps[2]?.getD undef= .pointer (some ⟨g4,0,none⟩))(h5:a.tmps[3]?.getD undef= .pointer (some ⟨g5,0,none⟩))
 (k4:Blk W g4 38 xs) (h:xs.size=22) (k5:Blk W g5 41 #[x,y,z]) (hQ:Q (.returned (.tuple #[.agg xs,.agg #[x,y,z]])) W):bodyPost Tryz.prog Tryz.f4 Q Exit.ret a W:=by
 have hl:=zj k4 h;have c5:=k5.cell;exact bodyPost_ret (v:= .tuple #[.agg xs,.agg #[x,y,z]]) (by simp[results,Tryz.results4,h4,h5,go_sem,hl,c5]) hd hQ
attribute [local go_sem↓] yg xd yx in
attribute [local go_sem] xe in
theorem zoi(d:Nat)(w:World)(hD:Dk w d):Calls Tryz.prog 4 #[.pointer (some ⟨d,0,none⟩)] w (zse w d):=by
 go_enter Tryz.func4,Tryz.ntmps4;go_upto_region 1 with fail;refine za0 (fun W k2 k3 hE0=> ?_);obtain⟨b2,hb2⟩: ∃b,w.heap.size=b:=⟨_,rfl⟩;rw[hb2]at k2 k3|-;have Hb2:=Lib.hid hb2;clear hb2;have hdw:=hD.lt;have hDW:=hD.ext hE0;go_wp2_with fail;go_at_call 10;refine(zhu d W hDW).mono ?_;rintro e w1 ⟨C,Ac,cc,rfl,hC,hA,hD1,hB1⟩;go_wp2_with fail;go_at_call 9
 refine(zh7 (S:= [b2,b2+1]) d _ cc Ac C w1 (fun x hx=>by
  have:=(k3.but hB1 (by have:=Hb2.out;simp;omega)).lt;simp only[List.mem_cons,List.not_mem_nil,or_false]at hx;omega) hD1 hA hDW.lt hC).mono ?_
 rintro e w2 ⟨P,M,v,g,N,B,I,rfl,hO,hap,hN,hv,hal,hgr,hvl,hD2,hB2⟩;have hgr':=hgr;obtain⟨A4,a4,B4,c4,C4,d4,ps,rfl,_⟩:=hgr';have Hv0:=Lib.hid hv;have Hal:=Lib.hid hal;have hb2:=Hb2.out;have hbd:b2∉ [d]:=by simp;omega
 have hbd1:b2+1∉ [d]:=by simp;omega
 have k2a:=(k2.but hB1 hbd).but hB2 hbd;have k3a:=(k3.but hB1 hbd1).but hB2 hbd1;have hBt:But [d] w w2:=((hE0.but _).trans hB1).trans hB2;have hst:=zO k2a rfl (za P M) (zg P M);have hst2:=zec (k3a.but (zD w2 b2 (ze P M)) (by simp)) rfl A4 B4 C4 g.ns.length a4 g.us.length c4 g.rs.length d4;have hsz:=za P M;clear hv hal hA hD1 hB1 hB2 k2 k3 hDW;go_wp2_with fail;have e4:=zD w2 b2 (ze P M);have e5:=kU (w2.setRow b2 (ze P M)) (b2+1) (.slice A4 g.ns.length a4) (.slice B4 g.us.length c4) (.slice C4 g.rs.length d4);have k4a:Blk (w2.setRow b2 (ze P M)) b2 38 (ze P M):=setRow_heap w2 b2 _ (ze P M) 38 (0,0) k2a;have k5a:=k3a.but e4 (by simp);have k5b:=((k5a.set_ 0 (.slice A4 g.ns.length a4)).set_ 1 (.slice B4 g.us.length c4)).set_ 2 (.slice C4 g.rs.length d4);exact zrs rfl rfl rfl (k4a.but e5 (by simp)) (za _ _) k5b ⟨P,M,_,_,_,_,_,_,g,N,B,I,rfl,(hO.bx k2a e4).bx2 k5a (by decide) (by decide) (by decide) (by decide) (by decide) (by decide) (by decide) e5,hap,hN,Hv0.out,Hal.out,((hgr.but (But.more e4 (by simp))).but (But.more e5 (by simp))).less (by simp),hvl,(hD2.but e4 (fun x hx=>by have:=List.mem_singleton.1 hx;omega)).but e5 (fun x hx=>by have:=List.mem_singleton.1 hx;omega),But.freshS (But.freshS hBt e4 (fun x hx=>by have:=List.mem_singleton.1 hx;omega)) e5 (fun x hx=>by have:=List.mem_singleton.1 hx;omega)⟩
theorem zrt{Pg:Program}{cd:Code}{Q:Exit->Act->World->Prop}{a:Act}{w:World}{zs ys xs:Array Value}{x y z:Value}(h: ∀W,Blk W w.heap.size 38 xs->Ext w W->cd.wp Pg Q a W):
 cd.wp Pg Q a ((((w.alloc (.cells zs 38)).alloc (.cells ys 41)).setRow w.heap.size xs).setCells (w.heap.size+1) 0 [x,y,z]):=by
 have k1:Blk ((w.alloc (.cells zs 38)).alloc (.cells ys 41)) w.heap.size 38 zs:=Blk.alloc (Blk.new rfl) _;have k2:Blk (((w.alloc (.cells zs 38)).alloc (.cells ys 41)).setRow w.heap.size xs) w.heap.size 38 xs:=setRow_heap _ w.heap.size zs xs 38 (0,0) k1;have e5:=kU (((w.alloc (.cells zs 38)).alloc (.cells ys 41)).setRow w.heap.size xs) (w.heap.size+1) x y z;exact h _ (k2.but e5 (by simp)) (But.ext (y7 (Ext.alloc (Ext.alloc (Ext.refl w) _) _) (Nat.le_refl _) xs) e5 (fun q hq=>by have:=List.mem_singleton.1 hq;omega))
theorem zic{w:World}{b:Nat}{P:Hpl}{M:Hmm}(k:Blk w b 38 (ze P M)):(xc ⟨b,12,none⟩ 9).run Tryz.prog w= .ok (st9 P.k.al P.k.ob P.k.co P.k.st P.k.rd P.k.cd P.k.cp P.k.en P.k.wk) w:=
 yd k 12 9 [.int .i64 P.k.al,.int .i64 P.k.ob,.int .i64 P.k.co,.int .i64 P.k.st,.int .i64 P.k.rd,.int .i64 P.k.cd,.int .i64 P.k.cp,.int .i64 P.k.en,.int .i64 P.k.wk] rfl (fun j v hv=>by
  have hj:j<9:=by have:=(List.getElem?_eq_some_iff.1 hv).1;simpa using this
  rcases j with _|_|_|_|_|_|_|_|_|j<;>first|omega|exact hv)
theorem zru(a:Addr):loadCellsFrom a 0 9 #[]=xc a 9:=rfl
attribute [local go_sem↓] yg zru xd yx in
attribute [local go_sem] xe in
theorem zgt(A:Option Addr)(n c:Nat)(zs:List Int)(w:World)(hz:Rd w A n 1 (yb zs))(hn:n<=9223372036854775807):
 Calls Tryz.prog 3 #[.slice A n c] w fun r w'=>r= .returned (.bool true)∧Ext w w':=by
 go_enter Tryz.func3,Tryz.ntmps3;go_wp2_with fail;go_at_call 5;refine(zlw A n c zs _ hz hn).mono ?_;rintro e w1 ⟨rfl,hD,hE1⟩;go_wp2_with fail;go_at_call 4;refine(zoi _ w1 hD).mono ?_;rintro e w2 ⟨P,M,A4,B4,C4,a4,c4,d4,g,N,B,I,rfl,hO,hap,hN,hv,hal,hgr,hvl,hD2,hB2⟩;have hE2:Ext w w2:=But.ext hE1 hB2 (by simp);have hct:=hv.ct;have h5:Ct P.k.cd:=⟨by omega,by omega⟩;have h6:Ct P.k.cp:=⟨by omega,by omega⟩;have hct':P.k.cp<=P.k.cd:=by omega
 clear hO hap hv hal hgr hvl hD2 hB2 hD hz hct hE1;have hst:=fun zs ys hz=>(zO (w:=(w2.alloc (.cells zs 38)).alloc (.cells ys 41)) (Blk.alloc (Blk.new rfl) _) hz (za P M) (zg P M))
 have hst2:=fun zs ys=>zec (w:=((w2.alloc (.cells zs 38)).alloc (.cells #[.slice none 0 0,.slice none 0 0,.slice none 0 0] 41)).setRow w2.heap.size ys) (b:=w2.heap.size+1) ((Blk.new (by simp)).but (zD _ _ _) (by simp)) rfl A4 B4 C4 g.ns.length a4 g.us.length c4 g.rs.length d4
 have hsz:=za P M;go_upto_region 2 with fail;clear hst hst2 hsz;refine zrt (fun W k3 hE3=> ?_);obtain⟨b3,hb3⟩: ∃b,w2.heap.size=b:=⟨_,rfl⟩;rw[hb3]at k3|-;have hEW:=hE2.trans hE3;clear hb3 hE2 hE3;have hld:=zic k3;have hsv:=zgs P.k.al P.k.ob P.k.co P.k.st P.k.rd P.k.cd P.k.cp P.k.en P.k.wk W h5 h6;have hsz9:(st9 P.k.al P.k.ob P.k.co P.k.st P.k.rd P.k.cd P.k.cp P.k.en P.k.wk).size=9:=rfl;go_wp2_with fail;go_at_call 6;refine hsv.mono ?_;rintro e w5 ⟨r,rfl,hr,hE5⟩;clear hld hsv hsz9;have k5:=k3.ext hE5;have hE:=hEW.trans hE5;clear k3 hEW hE5;go_upto_region 3 with fail;by_cases h0:P.k.cd=0
 ·have hrn:zh9 r:=by
   have e1:P.k.cd.toNat=0:=by omega
   have e2:P.k.cp.toNat=0:=by have:=h6.1;omega
   rw[e1,e2,show vO 0 0=xC+1 from zqo]at hr;rcases hr with⟨h,_⟩|⟨_,h⟩
   ·omega
   ·exact h
  have o1:FloatKind.f64.format.order r 0=none:=vd hrn 0;have o2:FloatKind.f64.format.order r 4607182418800017408=none:=vd hrn _;have c17:w5.cell? ⟨b3,17,none⟩=some (.int .i64 0):=by have:=k5.cell 17;rw[this,<-h0];rfl
  have l5:=k5.lt;clear hr h5 h6 h0 hct';go_wp2_with(first|(go_at_call 7;refine(zao _ _ hrn).mono ?_;rintro e w1 ⟨rfl,rfl⟩)|(go_at_call 8;refine(zdq _).mono ?_;rintro e w1 ⟨rfl,hEa⟩));go_ret;exact⟨rfl,hE.trans hEa⟩
 ·have hq:=zp8 (a:=P.k.cp.toNat) (b:=P.k.cd.toNat) (by have:=h5.1;omega) (by omega) (by have:=h5.2;omega)
  have hr1:r<=4607182418800017408:=by
   rcases hr with⟨_,rfl⟩|⟨h,_⟩
   ·exact hq
   ·have:xC=9218868437227405312:=rfl
    omega
  have hi:xC=9218868437227405312:=rfl
  have ho1:FloatKind.f64.format.order r 0=some .eq∨FloatKind.f64.format.order r 0=some .gt:=by
   rcases Nat.eq_zero_or_pos r with rfl|h
   ·exact .inl (zog (by omega))
   ·exact .inr (zrr (by omega) (by omega) h)
  have ho2:FloatKind.f64.format.order r 4607182418800017408=some .eq∨FloatKind.f64.format.order r 4607182418800017408=some .lt:=by
   rcases Nat.eq_or_lt_of_le hr1 with rfl|h
   ·exact .inl (zog (by omega))
   ·exact .inr (zrq (by omega) (by omega) h)
  clear hr h5 h6 h0 hct' hq hr1 hi;rcases ho1 with o1|o1<;>rcases ho2 with o2|o2
  all_goals
   go_wp2_with(first|(go_at_call 7;refine(zao _ _ hrn).mono ?_;rintro e w1 ⟨rfl,rfl⟩)|(go_at_call 8;refine(zdq _).mono ?_;rintro e w1 ⟨rfl,hEa⟩));go_ret;exact⟨rfl,hE.trans hEa⟩
end Go.Proofs.YtopcdfbplknmlaaGreat
