/- Part of the proof of the claim: walks and plain laws; each theorem states its own conditions. -/
import Derived.Test.YtopcdfbplknmlaaGreatL
import Derived.Test.YtopcdfbplknmlaaGreatRows
import Derived.WalkKit
import Derived.WalkSpells
import Derived.WalkLawsBesides
import Derived.Lib.Hide
import Derived.RegionTactic
import Derived.Deep.DeepCutAuto
set_option linter.all false
set_option maxHeartbeats 2000000
set_option maxRecDepth 100000
namespace Go.Proofs.YtopcdfbplknmlaaGreat
open Go.RowKit Go.Draw
structure Fr where
 o:Int
 s:Int
 n:Int
def qS:Fr:=⟨-1,-1,-1⟩
def frs:List Fr->List Value
 | []=> []
 |f::l=> .int .i64 f.o:: .int .i64 f.s:: .int .i64 f.n::frs l
theorem zif: ∀l,(frs l).length=l.length*3
 | []=>rfl
 |f::l=>by simp only[frs,List.length_cons,zif l];omega
theorem zli: ∀(l:List Fr) (i:Nat) (f:Fr),l[i]? =some f->(frs l)[i*3]? =some (.int .i64 f.o)∧(frs l)[i*3+1]? =some (.int .i64 f.s)∧(frs l)[i*3+2]? =some (.int .i64 f.n)
 | [],i,f,h=>by simp at h
 |g::l,0,f,h=>by
  simp only[List.getElem?_cons_zero,Option.some.injEq]at h;subst h;exact⟨rfl,rfl,rfl⟩
 |g::l,i+1,f,h=>by
  simp only[List.getElem?_cons_succ]at h;have:=zli l i f h;rw[show(i+1)*3=i*3+1+1+1 by omega];exact this
theorem za4: ∀(l:List Fr) (i:Nat) (f:Fr),frs (l.set i f)=(((frs l).set (i*3) (.int .i64 f.o)).set (i*3+1) (.int .i64 f.s)).set (i*3+2) (.int .i64 f.n)
 | [],i,f=>by simp[frs]
 |g::l,0,f=>by simp[frs]
 |g::l,i+1,f=>by
  simp only[List.set_cons_succ,frs];rw[show(i+1)*3=i*3+1+1+1 by omega];simp only[List.set_cons_succ];rw[za4 l i f]
theorem zel: ∀(l:List Fr) (i:Nat) (f:Fr) (z:Int),l[i]? =some f->(frs l).set (i*3+2) (.int .i64 z)=frs (l.set i {f with n:=z})
 | [],i,f,z,h=>by simp at h
 |g::l,0,f,z,h=>by
  simp only[List.getElem?_cons_zero,Option.some.injEq]at h;subst h;simp[frs]
 |g::l,i+1,f,z,h=>by
  simp only[List.getElem?_cons_succ]at h;rw[show(i+1)*3+2=i*3+2+1+1+1 by omega];simp only[List.set_cons_succ,frs];rw[zel l i f z h]
theorem zig: ∀l,∀u∈frs l,u.oneCell'=true
 | [],u,h=>by simp[frs]at h
 |f::l,u,h=>by
  simp only[frs,List.mem_cons]at h;rcases h with rfl|rfl|rfl|h
  ·rfl
  ·rfl
  ·rfl
  ·exact zig l u h
structure Sp where
 sh:Nat
 ws:List Int
 fs:List Fr
structure Ch where
 q:Int
 b:Int
 c:List Nat
def Ch.st(x:Ch):Int:=x.b*4294967296+x.q
def yz(c:List Nat)(m:Nat):Int:=match c[m]? with|some g=>(g:Int)|none=> -1
theorem qO{c:List Nat}{m g:Nat}(h:c[m]? =some g):yz c m=(g:Int):=by unfold yz;rw[h]
theorem zjj{c:List Nat}{m:Nat}(h:c.length<=m):yz c m= -1:=by unfold yz;rw[List.getElem?_eq_none h]
def yp(c:List Nat):Int:=yz c (c.length-1)
def used(L:List Ch):List Nat:=L.flatMap (·.c)
structure Chs(S:Sp)(L:List Ch):Prop where
 sh:3<=S.sh∧S.sh<=8
 n2:2<=S.fs.length∧S.fs.length<=64
 wl:S.ws.length=S.fs.length*2^S.sh
 ids: ∀x∈L,0<=x.q∧x.q<=4294967295∧0<=x.b∧x.b<4
 sq:(L.map (·.q)).Nodup
 fr: ∀x∈L,∀p f:Nat,x.c[p]? =some f->S.fs[f]? =some (⟨x.q,x.st,yz x.c (p+1)⟩:Fr)
 nd:(used L).Nodup
 free: ∀f,f<S.fs.length->f∉used L->S.fs[f]? =some qS
 zero: ∀f,f<S.fs.length->f∉used L-> ∀j,j<2^S.sh->S.ws[f*2^S.sh+j]? =some 0
section
variable{S:Sp} {L:List Ch}
theorem xu{f:Nat}:f∈used L↔∃x∈L,∃p:Nat,x.c[p]? =some f:=by
 unfold used;rw[List.mem_flatMap];constructor
 ·rintro⟨x,hx,hf⟩
  obtain⟨p,hp⟩:=List.mem_iff_getElem?.1 hf;exact⟨x,hx,p,hp⟩
 ·rintro⟨x,hx,p,hp⟩
  exact⟨x,hx,List.mem_of_getElem? hp⟩
theorem Chs.lt(h:Chs S L){x:Ch}(hx:x∈L){p f:Nat}(hp:x.c[p]? =some f):f<S.fs.length:=(List.getElem?_eq_some_iff.1 (h.fr x hx p f hp)).1
theorem Chs.used_lt(h:Chs S L){f:Nat}(hf:f∈used L):f<S.fs.length:=by
 obtain⟨x,hx,p,hp⟩:=xu.1 hf;exact h.lt hx hp
theorem vS{x:Ch}(hx:x∈L)(h:(used L).Nodup):x.c.Nodup:=by
 obtain⟨A,B,rfl⟩:=List.append_of_mem hx;simp only[used,List.flatMap_append,List.flatMap_cons]at h;exact(List.nodup_append.1 (List.nodup_append.1 h).2.1).1
theorem zem{l:List Nat}(h:l.Nodup){i j f:Nat}(hi:l[i]? =some f)(hj:l[j]? =some f):i=j:=by
 obtain⟨h1,h2⟩:=List.getElem?_eq_some_iff.1 hi;obtain⟨h3,h4⟩:=List.getElem?_eq_some_iff.1 hj;exact(List.getElem_inj h).1 (h2.trans h4.symm)
theorem zoo{α:Type} [DecidableEq α]{g:Ch->α}(hq:(L.map g).Nodup){x y:Ch}(hx:x∈L)(hy:y∈L)(h:g x=g y):x=y:=by
 obtain⟨i,hi⟩:=List.mem_iff_getElem?.1 hx;obtain⟨j,hj⟩:=List.mem_iff_getElem?.1 hy;have h1:(L.map g)[i]? =some (g x):=by rw[List.getElem?_map,hi];rfl
 have h2:(L.map g)[j]? =some (g x):=by rw[List.getElem?_map,hj,h];rfl
 obtain⟨a1,a2⟩:=List.getElem?_eq_some_iff.1 h1;obtain⟨b1,b2⟩:=List.getElem?_eq_some_iff.1 h2;have:i=j:=(List.getElem_inj hq).1 (a2.trans b2.symm);subst this;rw[hi]at hj;injection hj
theorem Chs.same(h:Chs S L){x y:Ch}(hx:x∈L)(hy:y∈L)(hq:x.q=y.q):x=y:=zoo (g:=(·.q)) h.sq hx hy hq
theorem jK: ∀{L:List Ch} {x y:Ch} {f:Nat},(used L).Nodup->x∈L->y∈L->f∈x.c->f∈y.c->x=y
 | [],_,_,_,_,hx,_,_,_=>by simp at hx
 |z::L,x,y,f,h,hx,hy,fx,fy=>by
  simp only[used,List.flatMap_cons]at h;obtain⟨h1,h2,h3⟩:=List.nodup_append.1 h;rcases List.mem_cons.1 hx with rfl|hx'<;>rcases List.mem_cons.1 hy with rfl|hy'
  ·rfl
  ·exact absurd rfl (h3 f fx f (List.mem_flatMap.2 ⟨y,hy',fy⟩))
  ·exact absurd rfl (h3 f fy f (List.mem_flatMap.2 ⟨x,hx',fx⟩))
  ·exact jK h2 hx' hy' fx fy
theorem vT: ∀(n:Nat) (l:List Nat),l.Nodup->(∀x∈l,x<n) ->l.length<=n
 |0,[],_,_=>by simp
 |0,x::l,_,h=>absurd (h x (by simp)) (by omega)
 |n+1,l,hl,h=>by
  by_cases hn:n∈l
  ·have h1:=vT n (l.erase n) (hl.erase n) (fun x hx=>by
    have h2:=h x (List.mem_of_mem_erase hx);have h3:x≠n:=fun e=>by subst e;exact hl.not_mem_erase hx
    omega)
   rw[List.length_erase_of_mem hn]at h1;omega
  ·have h1:=vT n l hl (fun x hx=>by
    have h2:=h x hx;have h3:x≠n:=fun e=>by subst e;exact hn hx
    omega)
   omega
theorem Chs.len_used(h:Chs S L):(used L).length<=S.fs.length:=vT _ _ h.nd (fun _ hf=>h.used_lt hf)
theorem Chs.len_ch(h:Chs S L){x:Ch}(hx:x∈L):x.c.length<=S.fs.length:=vT _ _ (vS hx h.nd) (fun f hf=>h.used_lt (List.mem_flatMap.2 ⟨x,hx,hf⟩))
theorem Chs.cases(h:Chs S L){i:Nat}{F:Fr}(hi:S.fs[i]? =some F):(F=qS∧i∉used L)∨(∃x∈L,∃p,x.c[p]? =some i∧F=⟨x.q,x.st,yz x.c (p+1)⟩):=by
 have hil:=(List.getElem?_eq_some_iff.1 hi).1;by_cases hu:i∈used L
 ·obtain⟨x,hx,p,hp⟩:=xu.1 hu
  have e1:=h.fr x hx p i hp;rw[hi]at e1;injection e1 with e1;exact .inr ⟨x,hx,p,hp,e1⟩
 ·have:=h.free i hil hu
  rw[hi]at this;injection this with this;exact .inl ⟨this,hu⟩
end
theorem Tryz.mixed:Tryz.prog.follows .mixedOrders=true:=by kernel_rfl
theorem xQ{k:IntKind}{a b:Int}(h:a=b):Ending.returned (.int k a)= .returned (.int k b):=by rw[h]
theorem xv{a b:Bool}(h:a=b):Ending.returned (.bool a)= .returned (.bool b):=by rw[h]
def yb(zs:List Int):List Value:=zs.map (.int .i64)
def words(zs:List Int):List Value:=zs.map (.int .u64)
theorem zen(l:List Int):(yb l).length=l.length:=by simp[yb]
theorem zjk(l:List Int):(words l).length=l.length:=by simp[words]
theorem xq{l:List Int}{i:Nat}{z:Int}(h:l[i]? =some z):(yb l)[i]? =some (.int .i64 z):=by simp[yb,h]
theorem xV{l:List Int}{i:Nat}{z:Int}(h:l[i]? =some z):(words l)[i]? =some (.int .u64 z):=by simp[words,h]
theorem zac(l:List Int)(i:Nat)(z:Int):words (l.set i z)=(words l).set i (.int .u64 z):=by simp[words,List.map_set]
theorem xj(zs:List Int): ∀u∈yb zs,u.oneCell'=true:=by
 intro u hu;simp only[yb,List.mem_map]at hu;obtain⟨z,_,rfl⟩:=hu;rfl
theorem v5(zs:List Int): ∀u∈words zs,u.oneCell'=true:=by
 intro u hu;simp only[words,List.mem_map]at hu;obtain⟨z,_,rfl⟩:=hu;rfl
theorem Tryz.elW:Elem Tryz.prog 26 67 (.int .u64 0) 1 8:=⟨Tryz.underlying26,by kernel_rfl,rfl,by omega⟩
theorem Tryz.elI:Elem Tryz.prog 22 3 (.int .i64 0) 1 8:=⟨Tryz.underlying22,by kernel_rfl,rfl,by omega⟩
theorem Tryz.elF:Elem Tryz.prog 27 118 (.agg #[.int .i64 0,.int .i64 0,.int .i64 0]) 3 24:=⟨Tryz.underlying27,by kernel_rfl,rfl,by omega⟩
structure SRd(w:World)(S:Sp)(A B:Option Addr):Prop where
 W:Rd w A S.ws.length 1 (words S.ws)
 F:Rd w B S.fs.length 3 (frs S.fs)
theorem SRd.ext{w w':World}{S:Sp}{A B:Option Addr}(h:SRd w S A B)(he:Ext w w'):SRd w' S A B:=⟨h.W.ext he,h.F.ext he⟩
structure SOw(w:World)(base:Nat)(S:Sp)(gW cW gF cF:Nat):Prop where
 W:w.ownsRow base 67 1 (.slice (some ⟨gW,0,none⟩) S.ws.length cW) S.ws.length (words S.ws)
 F:w.ownsRow base 118 3 (.slice (some ⟨gF,0,none⟩) S.fs.length cF) S.fs.length (frs S.fs)
section
variable{w w':World} {base gW cW gF cF:Nat} {S:Sp}
theorem SOw.rd(h:SOw w base S gW cW gF cF):SRd w S (some ⟨gW,0,none⟩) (some ⟨gF,0,none⟩):=⟨Rd.of_own h.W,Rd.of_own h.F⟩
theorem SOw.ext(h:SOw w base S gW cW gF cF)(he:Ext w w'):SOw w' base S gW cW gF cF:=⟨zm h.W he,zm h.F he⟩
theorem SOw.base_(h:SOw w base S gW cW gF cF){b:Nat}(hb:b<=base):SOw w b S gW cW gF cF:=⟨zu h.W hb,zu h.F hb⟩
theorem SOw.ne(h:SOw w base S gW cW gF cF):gW≠gF:=zaa h.W h.F (by decide)
theorem SOw.lt(h:SOw w base S gW cW gF cF):base<=gW∧gW<w.heap.size∧base<=gF∧gF<w.heap.size:=by
 have h1:=World.ownsRow.lt h.W gW rfl;have h2:=World.ownsRow.lt h.F gF rfl;exact⟨h1.1,h1.2,h2.1,h2.2⟩
theorem SOw.but(h:SOw w base S gW cW gF cF){X:List Nat}(he:But X w w')(h1:gW∉X)(h2:gF∉X):SOw w' base S gW cW gF cF:=
 ⟨zo h.W he (fun g hg=>by simp only[Value.ownBlock,Option.some.injEq]at hg;subst hg;exact h1),zo h.F he (fun g hg=>by simp only[Value.ownBlock,Option.some.injEq]at hg;subst hg;exact h2)⟩
end
theorem jl{w:World}{A:Option Addr}{n:Nat}{l:List Fr}(h:Rd w A n 3 (frs l)){k:Nat}{F:Fr}(hk:l[k]? =some F):
 ∃b o,A=some ⟨b,o,none⟩∧w.cell? ⟨b,o+k*3,none⟩=some (.int .i64 F.o)∧w.cell? ⟨b,o+k*3+1,none⟩=some (.int .i64 F.s)∧w.cell? ⟨b,o+k*3+2,none⟩=some (.int .i64 F.n):=by
 have hl:=(List.getElem?_eq_some_iff.1 hk).1;have h1:=h.1;rw[zif]at h1;obtain⟨b,o,rfl,hc⟩:=h.2 (by omega);obtain⟨a1,a2,a3⟩:=zli l k F hk;exact⟨b,o,rfl,hc _ _ a1,hc _ _ a2,hc _ _ a3⟩
theorem xw{w:World}{A:Option Addr}{n:Nat}{l:List Int}(h:Rd w A n 1 (words l)){k:Nat}{z:Int}(hk:l[k]? =some z):
 ∃b o,A=some ⟨b,o,none⟩∧w.cell? ⟨b,o+k,none⟩=some (.int .u64 z):=by
 have hl:=(List.getElem?_eq_some_iff.1 hk).1;have h1:=h.1;rw[zjk]at h1;obtain⟨b,o,rfl,hc⟩:=h.2 (by omega);exact⟨b,o,rfl,hc _ _ (xV hk)⟩
theorem yG{sh:Nat}(h:3<=sh∧sh<=8):8<=2^sh∧2^sh<=256:=by
 obtain⟨h1,h2⟩:=h;exact⟨Nat.pow_le_pow_right (n:=2) (by omega) h1,Nat.pow_le_pow_right (n:=2) (by omega) h2⟩
theorem zjl(sh:Nat)(w:World)(h:3<=sh∧sh<=8):Calls Tryz.prog 53 #[.int .i64 sh] w fun r w'=>r= .returned (.bool true)∧w=w':=by
 obtain⟨h1,h2⟩:=h;have a1:(3:Int)<=sh:=by omega
 have a2:(sh:Int)<=8:=by omega
 have d1:decide ((3:Int)<=sh)=true:=by simpa using a1
 have d2:decide ((sh:Int)<=8)=true:=by simpa using a2
 go_enter Tryz.func53,Tryz.ntmps53;go_wp2;go_ret;exact⟨rfl,rfl⟩
def yJ(n B:Nat):Nat:=(n+B-1)/B
theorem zeo(n B sh:Nat)(w:World)(hB:2^sh=B)(h8:sh<=8)(hn:n<=1000000)(h1:1<=B)(h2:B<=256):
 Calls Tryz.prog 106 #[.int .i64 n,.int .i64 sh] w fun r w'=>r= .returned (.int .i64 (yJ n B:Nat))∧w=w':=by
 have hB':(2:Int)^sh=B:=by rw[<-hB];simp
 have s1:(sh:Int).toNat=sh:=by omega
 clear hB;go_enter Tryz.func106,Tryz.ntmps106;go_wp2;go_ret;refine⟨xQ ?_,rfl⟩;unfold yJ;rw[Int.natCast_ediv];congr 1;omega
theorem zjm(A:Option Addr)(c:Nat)(ws:List Int)(w:World)(hr:Rd w A ws.length 1 (words ws))(hn:ws.length<=100000):
 Calls Tryz.prog 82 #[.slice A ws.length c] w fun r w'=> ∃A' c',r= .returned (.slice A' ws.length c')∧w'.ownsRow w.heap.size 67 1 (.slice A' ws.length c') ws.length (words ws)∧Ext w w':=by
 go_enter Tryz.func82,Tryz.ntmps82;go_wp2_with(first|(at_builtin;refine y6 rfl Tryz.elW _ _ rfl rfl _ A _ c (words ws) rfl hr (v5 ws) (by omega) (by omega) (Nat.le_refl _) ?_;intro A' c' w1 hA' hE1));go_ret;exact⟨_,_,rfl,hA',hE1⟩
def spV(S:Sp)(A:Option Addr)(a:Nat)(B:Option Addr)(b:Nat):Value:= .agg #[.int .i64 S.sh,.slice A S.ws.length a,.slice B S.fs.length b]
def zsg(w:World)(S:Sp)(r:Ending)(w':World):Prop:= ∃gW cW gF cF,r= .returned (.agg #[.int .i64 S.sh,.slice (some ⟨gW,0,none⟩) S.ws.length cW,.slice (some ⟨gF,0,none⟩) S.fs.length cF])∧SOw w' w.heap.size S gW cW gF cF∧Ext w w'
theorem ym(A B:Option Addr)(a b:Nat)(S:Sp)(w:World)(h:SRd w S A B)(h1:0<S.ws.length)(h2:S.ws.length<=100000)(h3:0<S.fs.length)(h4:S.fs.length<=64):
 Calls Tryz.prog 60 #[spV S A a B b] w (zsg w S):=by
 unfold spV;go_enter Tryz.func60,Tryz.ntmps60;go_wp2;refine jRB [w.heap.size+1] [(true,0),(true,1),(true,2),(true,3),(true,5),(true,6),(false,4),(false,7),(true,8),(false,9)] Tryz.mixed fun hx hy=> ?_
 repeat(first
  |refine jLB hx ?_
  |refine jLS ?_
  |(refine yP hx (fun K hK=> ?_);go_simp;go_at_call 82;refine(zjm A a S.ws _ (h.W.ext jX) (by omega)).mono ?_;rintro e w1 ⟨A',a',rfl,hA',hE1⟩;have hz:=hE1.size_le;(try simp at hz);refine hK _ _ ((hE1).but _) ?_;clear hK hx;intro hx;replace hy:=Ext.trans hy (Ext.trans jX (hE1));refine jq ?_)
  |(refine yP hx (fun K hK=> ?_);refine yL Tryz.elF _ _ rfl rfl _ B _ b (frs S.fs) rfl (h.F.ext jX) (zig S.fs) (by omega) (by omega) (Nat.le_refl _) ?_;intro B' b' w2 hB' hE2;have hz2:=hE2.size_le;(try simp at hz2);refine hK _ _ ((hE2).but _) ?_;clear hK hx;intro hx;replace hy:=Ext.trans hy (Ext.trans jX (hE2));refine jq ?_)
  |(refine yP hx (fun K hK=> ?_);go_simp;(first|refine hK _ _ jB ?_|refine hK undef _ jB ?_);clear hK hx;intro hx;try refine jq ?_)
  |(refine yP hx (fun K hK=> ?_);have hcy:=Ext.cell hy;have hfy:=Ext.froz hy;go_simp;(first|refine hK _ _ jB ?_|refine hK undef _ jB ?_);clear hK hx;intro hx;try refine jq ?_))
 refine zH ?_;go_wp2;obtain⟨gW,rfl,hg1,hg2⟩:=yD hA' h1;obtain⟨gF,rfl,hf1,hf2⟩:=yD hB' h3;refine bodyPost_ret (v:=spV S (some ⟨gW,0,none⟩) a' (some ⟨gF,0,none⟩) b') (by simp[results,Tryz.results60,go_sem,hcy,spV]) rfl ⟨gW,a',gF,b',rfl,⟨?_,?_⟩,?_⟩
 ·exact zu (yu (yu (yu (zm hA' hE2) (by(first|omega|(simp;done)|(simp;omega))) _) (by(first|omega|(simp;done)|(simp;omega))) _) (by(first|omega|(simp;done)|(simp;omega))) _) (by(first|omega|(simp;done)|(simp;omega)))
 ·exact zu (yu (yu (yu hB' (by(first|omega|(simp;done)|(simp;omega))) _) (by(first|omega|(simp;done)|(simp;omega))) _) (by(first|omega|(simp;done)|(simp;omega))) _) (by(first|omega|(simp;done)|(simp;omega)))
 ·refine Ext.setCell (Ext.setCell (Ext.setCell ?_ (by simp) _) (by simp) _) (by simp) _
  exact jX
def frK(fs:List Fr)(k:Nat):List Nat:=(List.range k).filter fun i=>(fs[i]?).any fun F=>F.o== -1
theorem zop{fs:List Fr}{k:Nat}{F:Fr}(h:fs[k]? =some F)(ho:F.o= -1):frK fs (k+1)=frK fs k++ [k]:=by
 simp only[frK,List.range_succ,List.filter_append];rw[List.filter_cons_of_pos (by rw[h];simp[ho])];rfl
theorem zqp{fs:List Fr}{k:Nat}{F:Fr}(h:fs[k]? =some F)(ho:F.o≠ -1):frK fs (k+1)=frK fs k:=by
 simp only[frK,List.range_succ,List.filter_append];rw[List.filter_cons_of_neg (by rw[h];simp[ho])];simp
theorem zdu(fs:List Fr)(k:Nat):(frK fs k).length<=k:=by
 have:=List.length_filter_le (fun i=>(fs[i]?).any fun F=>F.o== -1) (List.range k);simpa[frK]using this
def yB(l:List Nat):List Int:=l.map (Int.ofNat ·)
theorem qw(l:List Nat):(yB l).length=l.length:=by simp[yB]
theorem qg(l:List Nat)(k:Nat):yb (yB l)++ [.int .i64 (k:Int)]=yb (yB (l++ [k])):=by simp[yb,yB]
def j4(w:World)(l:List Nat)(r:Ending)(w':World):Prop:=
 ∃A c,r= .returned (.slice A l.length c)∧w'.ownsRow w.heap.size 3 1 (.slice A l.length c) l.length (yb (yB l))∧Ext w w'
theorem zih(w:World)(ob:Obj)(x:Value)(t:TypeId):Rd ((w.alloc ob).alloc (.cells #[x] t)) (some ⟨w.heap.size+1,0,none⟩) 1 1 [x]:=by
 have h:=xm (w.alloc ob) x t;simpa using h
theorem qT(A B:Option Addr)(a b:Nat)(S:Sp)(w:World)(h:SRd w S A B)(h4:S.fs.length<=64):
 Calls Tryz.prog 92 #[spV S A a B b] w (j4 w (frK S.fs S.fs.length)):=by
 unfold spV;have hF:=h.F;go_enter Tryz.func92,Tryz.ntmps92;go_wp2;go_loopw [3,9] (fun s i wr=> ∃(k:Nat) (D:Option Addr) (d:Nat),k<=S.fs.length∧i= .int .i64 k∧s= .slice D (frK S.fs k).length d∧wr.ownsRow w.heap.size 3 1 (.slice D (frK S.fs k).length d) (frK S.fs k).length (yb (yB (frK S.fs k)))∧Ext w wr) (fun _ i _=>S.fs.length-(intOf i).toNat);case atStart=>exact⟨0,none,0,by omega,rfl,rfl,zP _ _ _ _,by exact jX⟩
 case round=>
  obtain⟨k,D,d,hk,rfl,rfl,hown,hE⟩:=hrel;have hll:=zdu S.fs k;have hsz:=hE.size_le;by_cases hlt:k<S.fs.length
  ·have hdec:decide ((k:Int)<S.fs.length)=true:=by simp;omega
   have hdec':decide (k<S.fs.length)=true:=by simp;omega
   obtain⟨F,hF0⟩: ∃F,S.fs[k]? =some F:=⟨_,List.getElem?_eq_getElem hlt⟩;obtain⟨bF,oF,rfl,c0,c1,c2⟩:=jl (hF.ext hE) hF0;have lF:=zh c0;by_cases ho:F.o= -1
   ·have Hs:=Lib.hid (zop hF0 ho)
    rw[ho]at c0;clear ho hF0;generalize hzl:frK S.fs k=zl at*;have Hzl:=Lib.hid hzl;clear hzl;go_wp2_with(first|(at_builtin;refine zJ rfl Tryz.elI _ _ rfl w.heap.size _ _ _ rfl (z8 (z8 hown _) _) _ 1 1 _ rfl (zih _ _ _ _) (by simp[Value.oneCell']) (by omega) (by omega) (by(first|omega|(simp;done)|(simp;omega))) ?_;intro A2 c2 w2 hown2 hg2 hat2));have hE2:Ext w w2:=yy jX hg2 (z8 (z8 hown _) _) (Nat.le_refl _);have hl2:(zl++ [k]).length=zl.length+1:=by simp
    rw[qg]at hown2;have Hl2:=Lib.hid hl2;clear hl2;go_wp2;go_roundw;case rel=>exact⟨k+1,A2,c2,by omega,by go_num,by rw[Hs.out,Hl2.out],by rw[Hs.out,Hl2.out];exact hown2,hE2⟩
    case measure=>simp[intOf];omega
   ·have Hs:=Lib.hid (zqp hF0 ho)
    have ho':(F.o== -1)=false:=by simpa using ho
    clear ho hF0;go_wp2;go_roundw;case rel=>exact⟨k+1,D,d,by omega,by go_num,by rw[Hs.out],by rw[Hs.out];exact zm hown jX,by exact jX⟩
    case measure=>simp[intOf];omega
  ·have hdec:decide ((k:Int)<S.fs.length)=false:=by simp;omega
   have hdec':decide (k<S.fs.length)=false:=by simp;omega
   have hke:k=S.fs.length:=by omega
   rw[hke]at hown|-;go_wp2;go_ret;exact⟨D,d,rfl,hown,hE⟩
def Sp.setF(S:Sp)(i:Nat)(F:Fr):Sp:={S with fs:=S.fs.set i F}
def zoq(w:World)(S:Sp)(i:Nat)(F:Fr)(base gW cW gF cF:Nat)(r:Ending)(w':World):Prop:=r= .returned (.int .i64 i)∧SOw w' base (S.setF i F) gW cW gF cF∧But [gF] w w'
theorem zep(gW cW gF cF base:Nat)(S:Sp)(q b:Int)(i:Nat)(w:World)(h:SOw w base S gW cW gF cF)(h4:S.fs.length<=64)(hi: ∃F,S.fs[i]? =some F∧F.o= -1)(hj: ∀j F,j<i->S.fs[j]? =some F->F.o≠ -1)
 (h1:0<=q) (h2:q<=4294967295) (h3:0<=b) (h5:b<4):
 Calls Tryz.prog 93 #[spV S (some ⟨gW,0,none⟩) cW (some ⟨gF,0,none⟩) cF,.int .i64 q,.int .i64 b] w (zoq w S i ⟨q,b*4294967296+q,-1⟩ base gW cW gF cF):=by
 unfold spV;have hil:i<S.fs.length:=by obtain⟨F,h1,_⟩:=hi;exact(List.getElem?_eq_some_iff.1 h1).1
 have hbl:=h.lt;have Hi:=Lib.hid hi;have Hj:=Lib.hid hj;clear hi hj;go_enter Tryz.func93,Tryz.ntmps93;go_wp2;have k0:Blk (w.alloc (.cells #[.int .i64 S.sh,.slice (some ⟨gW,0,none⟩) S.ws.length cW,.slice (some ⟨gF,0,none⟩) S.fs.length cF] 29)) w.heap.size 29 #[.int .i64 S.sh,.slice (some ⟨gW,0,none⟩) S.ws.length cW,.slice (some ⟨gF,0,none⟩) S.fs.length cF]:=Blk.new rfl;have hE0:Ext w (w.alloc (.cells #[.int .i64 S.sh,.slice (some ⟨gW,0,none⟩) S.ws.length cW,.slice (some ⟨gF,0,none⟩) S.fs.length cF] 29)):=by exact jX
 generalize w.alloc (.cells #[.int .i64 S.sh,.slice (some ⟨gW,0,none⟩) S.ws.length cW,.slice (some ⟨gF,0,none⟩) S.fs.length cF] 29)=W at k0 hE0|-;go_loopw [12] (fun s wr=> ∃k:Nat,k<=i∧s= .int .i64 k∧Ext W wr) (fun s _=>i+1-(intOf s).toNat);case atStart=>exact⟨0,by omega,rfl,by exact jX⟩
 case round=>
  obtain⟨k,hk,rfl,hE⟩:=hrel;have hEw:=hE0.trans hE;have k0':=k0.ext hE;have cB:=k0'.cell;have lB:=k0'.lt;have hown:=h.ext hEw;have hlt:k<S.fs.length:=by omega
  have hdec:decide ((k:Int)<S.fs.length)=true:=by simp;omega
  have hdec':decide (k<S.fs.length)=true:=by simp;omega
  have hkI:(k:Int)<S.fs.length:=by omega
  obtain⟨F,hF0⟩: ∃F,S.fs[k]? =some F:=⟨_,List.getElem?_eq_getElem hlt⟩;obtain⟨bF,oF,he,c0,c1,c2⟩:=jl hown.rd.F hF0;simp only[Option.some.injEq,Addr.mk.injEq,and_true]at he;obtain⟨rfl,rfl⟩:=he;simp only[Nat.zero_add]at c0 c1 c2;have fF:=(zz hown.F).2;have lF:=zh c0;by_cases hki:k=i
  ·subst hki
   have ho:F.o= -1:=by obtain⟨G,h1,h2⟩:=Hi.out;rw[hF0]at h1;injection h1 with h1;rw[h1];exact h2
   rw[ho]at c0;clear ho hF0;go_wp2;go_ret;have q1:=yv (yv (yv hown.F (k*3) (.int .i64 q)) (k*3+1) (.int .i64 (b*4294967296+q))) (k*3+2) (.int .i64 (-1));rw[<-za4 S.fs k ⟨q,b*4294967296+q,-1⟩]at q1;have q2:=yf (yf (yf hown.W (p:=⟨gF,k*3,none⟩) hown.ne (.int .i64 q)) (p:=⟨gF,k*3+1,none⟩) hown.ne (.int .i64 (b*4294967296+q))) (p:=⟨gF,k*3+2,none⟩) hown.ne (.int .i64 (-1));refine⟨rfl,⟨z8 q2 _,?_⟩,But.alloc (But.setCell (But.setCell (But.setCell (hEw.but _) (by simp) _) (by simp) _) (by simp) _) _⟩;have q3:=z8 q1 (Obj.cells #[.int .i64 (-1),.int .i64 F.s,.int .i64 F.n] 118);simpa only[Sp.setF,List.length_set]using q3
  ·have ho':(F.o== -1)=false:=by simpa using Hj.out k F (by omega) hF0
   clear hF0;go_wp2;go_roundw;case rel=>exact⟨k+1,by omega,by go_num,by exact jX⟩
   case measure=>simp[intOf];omega
theorem zjn(a B sh:Nat)(hB:2^sh=B)(ha:a<1000000)(hs:sh<=8):bits .and .i64 (a:Int) ((B:Int) -1)=((a%B:Nat):Int):=by
 subst hB;have hp:2^sh<=256:=Nat.pow_le_pow_right (n:=2) (by omega) hs;have h0:0<2^sh:=Nat.pow_pos (by omega);have e:((2^sh:Nat):Int) -1=((2^sh-1:Nat):Int):=by omega
 rw[e];have hm:a%2^sh<=a:=Nat.mod_le _ _;have h2: ∀x y:Int,bits .and .i64 x y=IntKind.i64.wrap ((BitVec.ofInt 64 x&&&BitVec.ofInt 64 y).toNat:Int):=fun _ _=>rfl
 rw[h2]
 have h1:(BitVec.ofInt 64 (a:Int)&&&BitVec.ofInt 64 ((2^sh-1:Nat):Int)).toNat=a%2^sh:=by
  rw[BitVec.toNat_and];simp only[BitVec.ofInt_natCast,BitVec.toNat_ofNat];rw[Nat.mod_eq_of_lt (show a<2^64 by omega),Nat.mod_eq_of_lt (show 2^sh-1<2^64 by omega),Nat.and_two_pow_sub_one_eq_mod]
 rw[h1];generalize a%2^sh=r at hm|-;clear h1 h2 e;simp only[IntKind.wrap,IntKind.bits,IntKind.signed];simp;omega
theorem zL{w w':World}{o:Option Nat}(h:w.grownBy w' o):But o.toList w w':=by
 refine⟨h.os,h.tape,h.output,h.size,fun k hk hn=>h.block k hk (fun e=>hn ?_)⟩;rw[<-e];simp
theorem zii{w:World}{base:Nat}{e:TypeId}{size n:Nat}{v:Value}{xs:List Value}(h:w.ownsRow base e size v n xs){b:Nat}(hb:b<base):b∉v.ownBlock.toList:=fun hm=>by
 have:=(World.ownsRow.lt h b (by simpa using hm)).1;omega
def zy(c:List Nat)(B p:Nat):Nat:=c.getD (p/B) 0*B+p%B
theorem j5{c:List Nat}{B m g r p:Nat}(hg:c[m]? =some g)(hr:r<B)(hp:m*B+r=p):zy c B p=g*B+r:=by
 have h1:p/B=m:=by
  rw[<-hp,Nat.add_comm,Nat.add_mul_div_right _ _ (by omega),Nat.div_eq_of_lt hr];omega
 have h2:p%B=r:=by
  rw[<-hp,Nat.add_comm,Nat.add_mul_mod_self_right,Nat.mod_eq_of_lt hr]
 unfold zy;rw[h1,h2,List.getD_eq_getElem?_getD,hg];rfl
theorem zbf{c:List Nat}{B p:Nat}(hB:0<B)(hp:p<c.length*B): ∃m g r,c[m]? =some g∧r<B∧m*B+r=p:=by
 have h1:p/B<c.length:=(Nat.div_lt_iff_lt_mul hB).2 hp;refine⟨p/B,c[p/B],p%B,List.getElem?_eq_getElem h1,Nat.mod_lt _ hB,?_⟩;rw[Nat.mul_comm];exact Nat.div_add_mod p B
def vk(w:World)(a:Nat)(r:Ending)(w':World):Prop:=r= .returned (.tuple #[.int .i64 (a:Int),.int .i64 0])∧Ext w w'
theorem zlj(A Bf:Option Addr)(a b:Nat)(S:Sp)(L:List Ch)(x:Ch)(B p k:Nat)(w:World)(h:SRd w S A Bf)(hS:Chs S L)(hx:x∈L)(hB:2^S.sh=B)(hp:p+k<x.c.length*B):
 Calls Tryz.prog 65 #[spV S A a Bf b,.int .i64 (zy x.c B p:Nat),.int .i64 k] w (vk w (zy x.c B (p+k))):=by
 have hsh:=hS.sh.2;have hn2:=hS.n2.2;have hb1:=(yG hS.sh).1;have hb2:=(yG hS.sh).2;have hwl:=hS.wl;rw[hB]at hb1 hb2 hwl;have hlc:x.c.length*B<=64*256:=Nat.mul_le_mul (by have:=hS.len_ch hx;omega) hb2;obtain⟨m0,g0,r0,hg0,hr0,hp0⟩:=zbf (c:=x.c) (B:=B) (p:=p) (by omega) (by omega);rw[j5 hg0 hr0 hp0];have hS0:=hS.fr x hx m0 g0 hg0;have hgl:=hS.lt hx hg0;have hw1:(g0+1)*B<=S.fs.length*B:=Nat.mul_le_mul_right _ (by omega);have hw2:S.fs.length*B<=64*256:=Nat.mul_le_mul (by omega) hb2;rw[Nat.succ_mul]at hw1;have hdiv:(g0*B+r0)/B=g0:=by rw[Nat.add_comm,Nat.add_mul_div_right _ _ (by omega),Nat.div_eq_of_lt hr0];omega
 have hmod:(g0*B+r0)%B=r0:=by rw[Nat.add_comm,Nat.add_mul_mod_self_right,Nat.mod_eq_of_lt hr0]
 obtain⟨t,ht⟩: ∃t,g0*B+r0=t:=⟨_,rfl⟩;have hmask:=zjn t B S.sh hB (by omega) hsh;rw[ht]at hdiv hmod|-;rw[hmod]at hmask;have hdivI:(t:Int)/(B:Int)=(g0:Int):=by rw[<-Int.natCast_ediv,hdiv]
 have htl:t<S.ws.length:=by omega
 have hB':(2:Int)^S.sh=B:=by rw[<-hB];simp
 have s1:(S.sh:Int).toNat=S.sh:=by omega
 obtain⟨T,hT⟩: ∃T,p+k=T:=⟨_,rfl⟩;have hTk:m0*B+r0+k=T:=by omega
 rw[hT]at hp|-;have HTk:=Lib.hid hTk;have hkb:k<=T:=by omega
 have HS:=Lib.hid hS;have Hx:=Lib.hid hx;obtain⟨bF,oF,rfl,c0,c1,c2⟩:=jl h.F hS0;have hq:x.q≠ -1:=by have:=(hS.ids x hx).1;omega
 have hq':(x.q== -1)=false:=by simpa using hq
 have lF:=zh c0;have hF:=h.F;have Hg0:=Lib.hid hg0;have Ht:=Lib.hid ht;have HwL:=Lib.hid hwl;have e1:decide ((t:Int)<0)=false:=by simp
 have e2:decide ((S.ws.length:Int)<=t)=false:=by simp;omega
 have e2':decide (S.ws.length<=t)=false:=by simp;omega
 have e3:decide ((k:Int)<0)=false:=by simp
 have htb:t<20000:=by omega
 have gI:(g0:Int)<S.fs.length:=by omega
 clear hB ht hdiv hmod hwl hT hp0 hS hx hg0 hS0 hq hTk hw1;unfold spV;go_enter Tryz.func65,Tryz.ntmps65;go_upto_region 3 with fail;have k0:Blk (w.alloc (.cells #[.int .i64 S.sh,.slice A S.ws.length a,.slice (some ⟨bF,oF,none⟩) S.fs.length b] 29)) w.heap.size 29 #[.int .i64 S.sh,.slice A S.ws.length a,.slice (some ⟨bF,oF,none⟩) S.fs.length b]:=Blk.new rfl;have hE0:Ext w (w.alloc (.cells #[.int .i64 S.sh,.slice A S.ws.length a,.slice (some ⟨bF,oF,none⟩) S.fs.length b] 29)):=by exact jX
 generalize w.alloc (.cells #[.int .i64 S.sh,.slice A S.ws.length a,.slice (some ⟨bF,oF,none⟩) S.fs.length b] 29)=W at k0 hE0|-;generalize w.heap.size=b0 at k0|-;have cB:=k0.cell;have lB:=k0.lt;have d0:=zp hE0 c0;have d1:=zp hE0 c1;have d2:=zp hE0 c2;have lF':=zh d0;refine jRE [(true,0),(true,1),(true,2),(true,3),(true,4),(true,5),(true,6),(true,7),(true,8),(true,9),(true,10),(true,11),(true,12),(true,13)] Tryz.mixed fun hx=> ?_
 repeat(first
  |refine jLE hx ?_
  |refine jLS ?_
  |(refine yo hx (fun K hK=> ?_);go_simp;(first|refine hK _ _ jX ?_|refine hK undef _ jX ?_);clear hK hx;intro hx;try refine jq ?_))
 refine zH ?_;go_wp2_with fail;clear c0 c1 c2 d0 d1 d2 cB lB lF lF' hmask hdivI hgl hlc hw2 htl htb e1 e2 e2' e3;go_loopw [2,8,9] (fun sj sg sr wr=> ∃m r j g:Nat,x.c[m]? =some g∧r<B∧m*B+r+j=T∧sj= .int .i64 j∧sg= .int .i64 g∧sr= .int .i64 r∧wr=W.drew) (fun sj _ _ _=>(intOf sj).toNat);case atStart=>exact⟨m0,r0,k,g0,Hg0.out,hr0,HTk.out,rfl,rfl,rfl,rfl⟩
 case round=>
  obtain⟨m,r,j,g,hg,hr,hTj,rfl,rfl,rfl,rfl⟩:=hrel;have cB:=k0.cell;have lB:=k0.lt;have hS0:=HS.out.fr x Hx.out m g hg;obtain⟨bG,oG,he,c0,c1,c2⟩:=jl (hF.ext hE0) hS0;simp only[Option.some.injEq,Addr.mk.injEq,and_true]at he;obtain⟨rfl,rfl⟩:=he;have hgl:=HS.out.lt Hx.out hg;have gI:(g:Int)<S.fs.length:=by omega
  have lF:=zh c0;have hm1:(g+1)*B<=S.fs.length*B:=Nat.mul_le_mul_right _ (by omega);have hw2:S.fs.length*B<=64*256:=Nat.mul_le_mul (by omega) hb2;rw[Nat.succ_mul]at hm1;have hlc:x.c.length*B<=64*256:=Nat.mul_le_mul (by have:=HS.out.len_ch Hx.out;omega) hb2
  have hgb:(g:Int)*B<=16384:=by have:((g*B:Nat):Int)<=16384:=by omega
                                rwa[Int.natCast_mul]at this
  have hgb0:0<=(g:Int)*B:=Int.mul_nonneg (by omega) (by omega);have hjb:j<=20000:=by omega
  by_cases hlt:B<=r+j
  ·have h1:m+1<x.c.length:=by
    have h2:(m+1)*B<x.c.length*B:=by rw[Nat.succ_mul];omega
    exact Nat.lt_of_mul_lt_mul_right h2
   have hg':x.c[m+1]? =some x.c[m+1]:=List.getElem?_eq_getElem h1;generalize x.c[m+1]=g' at hg';rw[qO hg']at c2;have hgl':=HS.out.lt Hx.out hg';have hT':(m+1)*B+0+(j-(B-r))=T:=by rw[Nat.succ_mul];omega
   have HT':=Lib.hid hT';have Hg':=Lib.hid hg';have ed:decide ((B:Int) -r<=j)=true:=by simp;omega
   have ne:((g':Int)== -1)=false:=by simp
   have hrI:(r:Int)<B:=by omega
   clear hT' hg' hg hS0 hTj hw2 hlc hm1 h1;go_wp2;go_roundw;case rel=>exact⟨m+1,0,j-(B-r),g',Hg'.out,by omega,HT'.out,by rw[show(((j-(B-r):Nat)):Int)=(j:Int) -((B:Int) -r) by omega],rfl,rfl,trivial⟩
   case measure=>simp[intOf];omega
  ·have had:=j5 hg (show r+j<B by omega) (show m*B+(r+j)=T by omega)
   have Had:=Lib.hid had;have ed:decide ((B:Int) -r<=j)=false:=by simp;omega
   have hrI:(r:Int)<B:=by omega
   clear hg hS0 hTj hw2 hlc hm1 had;go_wp2
   go_ret2
   unfold vk;rw[Had.out,show((g*B+(r+j):Nat):Int)=(g:Int)*B+r+j by rw[Int.natCast_add,Int.natCast_mul,Int.natCast_add];omega];exact⟨rfl,by exact jX⟩
def zeq(x:Ch)(wd:Nat):Value:= .agg #[.int .i64 x.q,.int .i64 x.b,.int .i64 (yz x.c 0),.int .i64 (yp x.c),.int .i64 wd]
theorem zbg(A Bf:Option Addr)(a b:Nat)(S:Sp)(q b1 f l:Int)(wd B:Nat)(w:World)(h1:3<=S.sh∧S.sh<=8)(hB:2^S.sh=B)(hw:wd<=100000):
 Calls Tryz.prog 105 #[spV S A a Bf b,.agg #[.int .i64 q,.int .i64 b1,.int .i64 f,.int .i64 l,.int .i64 wd]] w fun r w'=>r= .returned (.int .i64 (yJ wd B:Nat))∧Ext w w':=by
 have hb1:=(yG h1).1;have hb2:=(yG h1).2;rw[hB]at hb1 hb2;unfold spV;go_enter Tryz.func105,Tryz.ntmps105;go_wp2_with(first|(go_at_call 106;refine(zeo _ B _ _ hB (by omega) (by omega) (by omega) (by omega)).mono ?_;rintro e w1 ⟨rfl,rfl⟩));go_ret;exact⟨rfl,by exact jX⟩
theorem zbh(A Bf:Option Addr)(a b:Nat)(S:Sp)(x:Ch)(wd B:Nat)(w:World)(h1:3<=S.sh∧S.sh<=8)(hB:2^S.sh=B)(hw:wd<=100000):
 Calls Tryz.prog 105 #[spV S A a Bf b,zeq x wd] w fun r w'=>r= .returned (.int .i64 (yJ wd B:Nat))∧Ext w w':=
 zbg A Bf a b S _ _ _ _ wd B w h1 hB hw
theorem zjo(z:Int)(n B sh:Nat)(w:World)(hB:2^sh=B)(hz:z=(n:Int))(h8:sh<=8)(hn:n<=1000000)(h1:1<=B)(h2:B<=256):
 Calls Tryz.prog 106 #[.int .i64 z,.int .i64 sh] w fun r w'=>r= .returned (.int .i64 (yJ n B:Nat))∧w=w':=by
 subst hz;exact zeo n B sh w hB h8 hn h1 h2
theorem zbi(n B:Nat)(hB:1<=B):yJ n B<=n:=by
 unfold yJ;rcases Nat.eq_zero_or_pos n with rfl|h
 ·rw[Nat.zero_add,Nat.div_eq_of_lt (by omega)]
  exact Nat.le_refl _
 ·rw[Nat.div_le_iff_le_mul (by omega)]
  have:n*1<=n*B:=Nat.mul_le_mul_left _ hB;have h3:B<=n*B:=by have:=Nat.mul_le_mul_right B h;omega
  omega
theorem zad(A Bf:Option Addr)(a b:Nat)(S:Sp)(x:Ch)(wd n B:Nat)(w:World)(h1:3<=S.sh∧S.sh<=8)(hB:2^S.sh=B)(hw:wd<=100000)(hn:n<=1000):
 Calls Tryz.prog 91 #[spV S A a Bf b,zeq x wd,.int .i64 n] w fun r w'=>r= .returned (.int .i64 ((yJ (wd+n) B:Nat) -(yJ wd B:Nat):Int))∧Ext w w':=by
 have hb1:=(yG h1).1;have hb2:=(yG h1).2;rw[hB]at hb1 hb2;have hc1:=zbi (wd+n) B (by omega);have hc2:=zbi wd B (by omega);have hwn:(wd:Int)+(n:Int)=((wd+n:Nat):Int):=by omega
 have Hwn:=Lib.hid hwn;clear hwn;unfold spV zeq;go_enter Tryz.func91,Tryz.ntmps91;go_wp2;have hsum:IntKind.i64.wrap ((wd:Int)+n)=(wd:Int)+n:=IntWalk.i64_in _ (by omega);refine jRE [(true,0),(true,1),(true,2),(true,3),(true,4),(true,5),(true,7),(true,8),(false,6),(false,9),(true,10),(true,11)] Tryz.mixed fun hx=> ?_
 repeat(first
  |refine jLE hx ?_
  |refine jLS ?_
  |(refine yo hx (fun K hK=> ?_);go_simp;go_at_call 106;refine(zjo _ _ _ _ _ hB Hwn.out (by omega) (by omega) (by omega) (by omega)).mono ?_;rintro e w1 ⟨rfl,rfl⟩;refine hK _ _ (Ext.refl _) ?_;clear hK hx;intro hx;refine jq ?_)
  |(refine yo hx (fun K hK=> ?_);go_simp;go_at_call 105;refine(zbh A Bf a b S x wd B _ h1 hB hw).mono ?_;rintro e w1 ⟨rfl,hE1⟩;refine hK _ _ (hE1) ?_;clear hK hx;intro hx;refine jq ?_)
  |(refine yo hx (fun K hK=> ?_);go_simp;(first|refine hK _ _ jX ?_|refine hK undef _ jX ?_);clear hK hx;intro hx;try refine jq ?_))
 refine zH ?_;go_wp2;go_ret;exact⟨rfl,by exact jX⟩
theorem zbj{w w':World}{cs:Array Value}{t:TypeId}(h:Ext (w.alloc (.cells cs t)) w'):Blk w' w.heap.size t cs:=(Blk.new rfl).ext h
theorem zdv: ∀(l1 l2:List Nat),l1.Nodup->(∀x∈l1,x∈l2) ->l1.length<=l2.length
 | [],_,_,_=>by simp
 |x::l1,l2,hn,hs=>by
  have hx:=hs x (by simp);have hn':=List.nodup_cons.1 hn;have h:=zdv l1 (l2.erase x) hn'.2 (fun y hy=>(List.mem_erase_of_ne (fun e=>by subst e;exact hn'.1 hy)).2 (hs y (by simp[hy])));rw[List.length_erase_of_mem hx]at h;have:0<l2.length:=List.length_pos_of_mem hx;simp only[List.length_cons];omega
theorem zlk{l1 l2:List Nat}(h1:l1.Nodup)(h2:l2.Nodup)(h: ∀x,x∈l1↔x∈l2):l1.length=l2.length:=
 Nat.le_antisymm (zdv _ _ h1 (fun x hx=>(h x).1 hx)) (zdv _ _ h2 (fun x hx=>(h x).2 hx))
def zll(fs:List Fr)(q:Int)(k:Nat):List Nat:=(List.range k).filter fun i=>(fs[i]?).any fun F=>F.o==q
theorem zgv(fs:List Fr)(q:Int)(k:Nat):(zll fs q k).Nodup:=List.Pairwise.filter _ List.nodup_range
theorem zer{fs:List Fr}{q:Int}{k i:Nat}:i∈zll fs q k↔i<k∧∃F,fs[i]? =some F∧F.o=q:=by
 unfold zll;rw[List.mem_filter,List.mem_range];constructor
 ·rintro⟨h1,h2⟩
  cases hF:fs[i]? with
  |none=>rw[hF]at h2;simp at h2
  |some F=>rw[hF]at h2;simp at h2;exact⟨h1,F,rfl,h2⟩
 ·rintro⟨h1,F,hF,h2⟩
  exact⟨h1,by rw[hF];simp[h2]⟩
section
variable{S:Sp} {L:List Ch}
theorem Chs.frees(h:Chs S L):(frK S.fs S.fs.length).length+(used L).length=S.fs.length:=by
 have hm: ∀i,i∈frK S.fs S.fs.length↔i<S.fs.length∧i∉used L:=by
  intro i;have h1:i∈frK S.fs S.fs.length↔i∈zll S.fs (-1) S.fs.length:=Iff.rfl;rw[h1,zer];constructor
  ·rintro⟨h1,F,hF,ho⟩
   refine⟨h1,?_⟩;rcases h.cases hF with⟨_,hu⟩|⟨y,hy,p,hp,rfl⟩
   ·exact hu
   ·have:=(h.ids y hy).1
    simp only at ho;omega
  ·rintro⟨h1,hu⟩
   exact⟨h1,qS,h.free i h1 hu,rfl⟩
 have hnd:(frK S.fs S.fs.length++used L).Nodup:=List.nodup_append.2 ⟨zgv _ _ _,h.nd,fun a ha b hb e=>by subst e;exact((hm a).1 ha).2 hb⟩
 have e:=zlk hnd (List.nodup_range (n:=S.fs.length)) (fun i=>by
  rw[List.mem_append,List.mem_range,hm];constructor
  ·rintro(⟨h1,_⟩|h1)
   ·exact h1
   ·exact h.used_lt h1
  ·intro h1
   by_cases hu:i∈used L
   ·exact .inr hu
   ·exact .inl ⟨h1,hu⟩)
 rw[List.length_append,List.length_range]at e;exact e
end
theorem zcr{wd B:Nat}(hB:1<=B)(h:yJ wd B=0):wd=0:=by
 unfold yJ at h;rcases Nat.eq_zero_or_pos wd with h0|h0
 ·exact h0
 ·have:=Nat.div_pos (show B<=wd+B-1 by omega) (by omega:0<B)
  omega
theorem xL{wd B n:Nat}(hB:1<=B)(h:yJ wd B<=n):wd<=n*B:=by
 unfold yJ at h;have h1:=Nat.div_add_mod (wd+B-1) B;have h2:=Nat.mod_lt (wd+B-1) (show B>0 by omega);have h3:B*((wd+B-1)/B)<=n*B:=by rw[Nat.mul_comm];exact Nat.mul_le_mul_right _ h
 omega
def v6(fs:List Fr)(c:List Nat)(i:Nat)(q st:Int):List Fr:=
 if c= []then fs.set i ⟨q,st,-1⟩else(fs.set i ⟨q,st,-1⟩).set (c.getD (c.length-1) 0) ⟨q,st,i⟩
theorem qh(fs:List Fr)(c:List Nat)(i:Nat)(q st:Int):(v6 fs c i q st).length=fs.length:=by
 unfold v6;split<;>simp
theorem zes{c:List Nat}{i p:Nat}(h:p<c.length):yz (c++ [i]) p=yz c p:=by
 unfold yz;rw[List.getElem?_append_left h]
theorem zet(c:List Nat)(i:Nat):yz (c++ [i]) c.length=(i:Int):=qO (by simp)
theorem zlm{c:List Nat}{i p:Nat}(h:c.length<p):yz (c++ [i]) p= -1:=zjj (by simp;omega)
theorem zjp(c:List Nat)(i:Nat):yp (c++ [i])=(i:Int):=by
 unfold yp;rw[show(c++ [i]).length-1=c.length by simp];exact zet c i
theorem zgw{fs:List Fr}(h:0<(frK fs fs.length).length): ∃i:Nat,(∃F:Fr,fs[i]? =some F∧F.o= -1)∧∀(j:Nat) (F:Fr),j<i->fs[j]? =some F->F.o≠ -1:=by
 have hm: ∃i:Nat,∃F:Fr,fs[i]? =some F∧F.o= -1:=by
  have hi:=List.getElem_mem (l:=frK fs fs.length) h;have h1:(frK fs fs.length)[0]∈zll fs (-1) fs.length:=hi;obtain⟨_,h2⟩:=zer.1 h1;exact⟨_,h2⟩
 obtain⟨i,hi⟩:=hm
 have key: ∀n i:Nat,i<=n->(∃F:Fr,fs[i]? =some F∧F.o= -1) -> ∃i:Nat,(∃F:Fr,fs[i]? =some F∧F.o= -1)∧∀(j:Nat) (F:Fr),j<i->fs[j]? =some F->F.o≠ -1:=by
  intro n;induction n with
  |zero=>
   intro i hi h;obtain rfl:i=0:=by omega
   exact⟨0,h,fun j F hj=>by omega⟩
  |succ n ih=>
   intro i hi h;by_cases hx: ∃j:Nat,j<i∧∃F:Fr,fs[j]? =some F∧F.o= -1
   ·obtain⟨j,hj,h2⟩:=hx
    exact ih j (by omega) h2
   ·exact⟨i,h,fun j F hj hF ho=>hx ⟨j,hj,F,hF,ho⟩⟩
 exact key i i (Nat.le_refl _) hi
section
variable{S:Sp} {L:List Ch} {x:Ch}
theorem Chs.notin(h:Chs S L){i:Nat}{F:Fr}(hF:S.fs[i]? =some F)(ho:F.o= -1):i∉used L:=by
 rcases h.cases hF with⟨_,hu⟩|⟨y,hy,p,hp,rfl⟩
 ·exact hu
 ·have:=(h.ids y hy).1
  simp only at ho;omega
def Ch.push(x:Ch)(i:Nat):Ch:={x with c:=x.c++ [i]}
theorem zcs{f i:Nat}:f∈used (x.push i::L)↔f∈used (x::L)∨f=i:=by
 simp only[used,List.flatMap_cons,List.mem_append,Ch.push,List.mem_singleton];constructor
 ·rintro((h|h)|h)
  ·exact .inl (.inl h)
  ·exact .inr h
  ·exact .inl (.inr h)
 ·rintro((h|h)|h)
  ·exact .inl (.inl h)
  ·exact .inr h
  ·exact .inl (.inr h)
theorem zln(h:Chs S (x::L)){i:Nat}{F:Fr}(hF:S.fs[i]? =some F)(ho:F.o= -1):
 (v6 S.fs x.c i x.q x.st)[i]? =some ⟨x.q,x.st,-1⟩∧(∀g,x.c[x.c.length-1]? =some g->(v6 S.fs x.c i x.q x.st)[g]? =some ⟨x.q,x.st,i⟩)∧
 ∀f,f≠i->(∀g,x.c[x.c.length-1]? =some g->f≠g) ->(v6 S.fs x.c i x.q x.st)[f]? =S.fs[f]? :=by
 have hil:=(List.getElem?_eq_some_iff.1 hF).1;have hni:=h.notin hF ho;unfold v6;by_cases hc:x.c= []
 ·rw[if_pos hc]
  refine⟨by rw[List.getElem?_set,if_pos rfl,if_pos hil],fun g hg=> ?_,fun f hf _=>by rw[List.getElem?_set,if_neg (fun e=>hf e.symm)]⟩;rw[hc]at hg;simp at hg
 ·rw[if_neg hc]
  have hl:0<x.c.length:=List.length_pos_iff.2 hc;have hg:x.c[x.c.length-1]? =some x.c[x.c.length-1]:=List.getElem?_eq_getElem (by omega);generalize x.c[x.c.length-1]'(by omega)=g at hg;have hgd:x.c.getD (x.c.length-1) 0=g:=by rw[List.getD_eq_getElem?_getD,hg];rfl
  rw[hgd];have hgl:=h.lt (List.mem_cons_self) hg;have hgi:g≠i:=fun e=>by subst e;exact hni (xu.2 ⟨x,List.mem_cons_self,_,hg⟩)
  refine⟨?_,fun g' hg'=> ?_,fun f hf hfg=> ?_⟩
  ·rw[List.getElem?_set,if_neg hgi,List.getElem?_set,if_pos rfl,if_pos hil]
  ·rw[hg]at hg'
   injection hg' with hg';subst hg';rw[List.getElem?_set,if_pos rfl,if_pos (by simpa using hgl)]
  ·rw[List.getElem?_set,if_neg (fun e=>hfg g hg e.symm),List.getElem?_set,if_neg (fun e=>hf e.symm)]
theorem Chs.push(h:Chs S (x::L)){i:Nat}{F:Fr}(hF:S.fs[i]? =some F)(ho:F.o= -1):Chs {S with fs:=v6 S.fs x.c i x.q x.st} (x.push i::L):=by
 have hil:=(List.getElem?_eq_some_iff.1 hF).1;have hni:=h.notin hF ho;obtain⟨h1,h2,h3⟩:=zln h hF ho;have hst:(x.push i).st=x.st:=rfl;refine⟨h.sh,by simpa only[qh]using h.n2,by simpa only[qh]using h.wl,?_,?_,?_,?_,?_,?_⟩
 ·intro y hy
  rcases List.mem_cons.1 hy with rfl|hy
  ·exact h.ids x List.mem_cons_self
  ·exact h.ids y (List.mem_cons_of_mem _ hy)
 ·exact h.sq
 ·intro y hy p f hp
  rcases List.mem_cons.1 hy with rfl|hyL
  ·simp only[Ch.push]at hp
   rw[hst];show(v6 S.fs x.c i x.q x.st)[f]? =some ⟨x.q,x.st,yz (x.c++ [i]) (p+1)⟩;rcases Nat.lt_or_ge p x.c.length with hpl|hpl
   ·rw[List.getElem?_append_left hpl]at hp
    by_cases he:p+1=x.c.length
    ·rw[he,zet]
     exact h2 f (by rw[show x.c.length-1=p by omega];exact hp)
    ·rw[zes (by omega),h3 f (fun e=>by subst e;exact hni (xu.2 ⟨x,List.mem_cons_self,_,hp⟩)) (fun g hg e=>by
      subst e;have:=zem (vS List.mem_cons_self h.nd) hp hg;omega)]
     exact h.fr x List.mem_cons_self p f hp
   ·have hpe:p=x.c.length:=by
     have:=(List.getElem?_eq_some_iff.1 hp).1;simp at this;omega
    subst hpe;simp only[List.getElem?_append_right (Nat.le_refl _),Nat.sub_self,List.getElem?_cons_zero,Option.some.injEq]at hp;subst hp;rw[zlm (by omega)];exact h1
  ·rw[h3 f (fun e=>by subst e;exact hni (xu.2 ⟨y,List.mem_cons_of_mem _ hyL,_,hp⟩)) (fun g hg e=>by
    subst e;have h4:=h.nd;simp only[used,List.flatMap_cons]at h4;exact(List.nodup_append.1 h4).2.2 f (List.mem_of_getElem? hg) f (List.mem_flatMap.2 ⟨y,hyL,List.mem_of_getElem? hp⟩) rfl)]
   exact h.fr y (List.mem_cons_of_mem _ hyL) p f hp
 ·have h4:=h.nd
  simp only[used,List.flatMap_cons]at h4|-;obtain⟨a1,a2,a3⟩:=List.nodup_append.1 h4
  have hn':i∉x.c∧i∉L.flatMap (·.c):=by
   simp only[used,List.flatMap_cons,List.mem_append,not_or]at hni;exact hni
  refine List.nodup_append.2 ⟨List.nodup_append.2 ⟨a1,by simp,fun a ha b hb e=> ?_⟩,a2,fun a ha b hb e=> ?_⟩
  ·have:=List.mem_singleton.1 hb
   subst this;subst e;exact hn'.1 ha
  ·subst e
   rcases List.mem_append.1 ha with ha|ha
   ·exact a3 a ha a hb rfl
   ·have:=List.mem_singleton.1 ha
    subst this;exact hn'.2 hb
 ·intro f hf hu
  simp only[qh]at hf;rw[zcs,not_or]at hu;rw[h3 f hu.2 (fun g hg e=>by subst e;exact hu.1 (xu.2 ⟨x,List.mem_cons_self,_,hg⟩))];exact h.free f hf hu.1
 ·intro f hf hu
  simp only[qh]at hf;rw[zcs,not_or]at hu;exact h.zero f hf hu.1
theorem zlo(h:Chs S (x::L)){i:Nat}{F:Fr}(hF:S.fs[i]? =some F)(ho:F.o= -1){g:Nat}(hg:x.c[x.c.length-1]? =some g):
 (frs (S.fs.set i ⟨x.q,x.st,-1⟩)).set (g*3+2) (.int .i64 (i:Int))=frs (v6 S.fs x.c i x.q x.st):=by
 have hni:=h.notin hF ho;have hgi:g≠i:=fun e=>by subst e;exact hni (xu.2 ⟨x,List.mem_cons_self,_,hg⟩)
 have hgF:=h.fr x List.mem_cons_self _ g hg;rw[zel _ g ⟨x.q,x.st,yz x.c (x.c.length-1+1)⟩ (i:Int) (by rw[List.getElem?_set,if_neg (fun e=>hgi e.symm)];exact hgF)];unfold v6;rw[if_neg (by intro e;rw[e]at hg;simp at hg),List.getD_eq_getElem?_getD,hg];rfl
end
structure Ob where
 o:Nat
 r:Nat
 d:Nat
def Ob.n(x:Ob):Nat:=1+x.r+x.d
def hd(r d:Nat):Int:=((1+r+d)*256+2*r:Nat)
structure In where
 x:Ch
 wd:Nat
 obs:List Ob
def yS:Nat->List Ob->Nat->Prop
 |p,[],e=>p=e
 |p,b::l,e=>b.o=p∧yS (p+b.n) l e
theorem yS.le: ∀{l:List Ob} {p e:Nat},yS p l e->p<=e
 | [],p,e,h=>Nat.le_of_eq h
 |b::l,p,e,h=>by
  have:=yS.le h.2;omega
theorem yS.mem: ∀{l:List Ob} {p e:Nat},yS p l e-> ∀b∈l,p<=b.o∧b.o+b.n<=e
 | [],_,_,_,b,hb=>by cases hb
 |c::l,p,e,h,b,hb=>by
  rcases List.mem_cons.1 hb with rfl|hb
  ·have:=yS.le h.2
   have:=h.1;omega
  ·have:=yS.mem h.2 b hb
   have:1<=c.n:=by unfold Ob.n;omega
   omega
theorem yS.inj: ∀{l:List Ob} {p e:Nat},yS p l e-> ∀b∈l,∀c∈l,∀j k,j<b.n->k<c.n->b.o+j=c.o+k->b=c∧j=k
 | [],_,_,_,b,hb,_,_,_,_,_,_,_=>by cases hb
 |a::l,p,e,h,b,hb,c,hc,j,k,hj,hk,he=>by
  rcases List.mem_cons.1 hb with hb1|hb1
  ·rcases List.mem_cons.1 hc with hc1|hc1
   ·subst hb1 hc1
    exact⟨rfl,by omega⟩
   ·have:=yS.mem h.2 c hc1
    have:=h.1;subst hb1;omega
  ·rcases List.mem_cons.1 hc with hc1|hc1
   ·have:=yS.mem h.2 b hb1
    have:=h.1;subst hc1;omega
   ·exact yS.inj h.2 b hb1 c hc1 j k hj hk he
theorem yS.snoc: ∀{l:List Ob} {p e:Nat},yS p l e-> ∀(r d:Nat),yS p (l++ [⟨e,r,d⟩]) (e+(1+r+d))
 | [],p,e,h,r,d=>⟨h.symm▸rfl,by rw[show p=e from h];rfl⟩
 |b::l,p,e,h,r,d=>⟨h.1,yS.snoc h.2 r d⟩
def total:List Ob->Nat
 | []=>0
 |b::l=>b.n+total l
theorem yS.total: ∀{l:List Ob} {p e:Nat},yS p l e->p+total l=e
 | [],p,e,h=>h
 |b::l,p,e,h=>by
  have:=yS.total h.2;unfold Go.Proofs.YtopcdfbplknmlaaGreat.total;omega
section
variable{S:Sp} {L:List Ch} {B:Nat}
theorem za5{c:List Nat}{p:Nat}(hB:0<B)(hp:p<c.length*B): ∃m g r,c[m]? =some g∧r<B∧m*B+r=p∧zy c B p=g*B+r∧zy c B p/B=g:=by
 obtain⟨m,g,r,hg,hr,hm⟩:=zbf hB hp;refine⟨m,g,r,hg,hr,hm,j5 hg hr hm,?_⟩;rw[j5 hg hr hm,Nat.add_comm,Nat.add_mul_div_right _ _ hB,Nat.div_eq_of_lt hr];omega
theorem qx(h:Chs S L)(hB:0<B){x y:Ch}(hx:x∈L)(hy:y∈L){p q:Nat}(hp:p<x.c.length*B)(hq:q<y.c.length*B)(he:zy x.c B p=zy y.c B q):x=y∧p=q:=by
 obtain⟨m,g,r,hg,hr,hm,ha,hd⟩:=za5 hB hp;obtain⟨m',g',r',hg',hr',hm',ha',hd'⟩:=za5 hB hq;have hgg:g=g':=by rw[<-hd,<-hd',he]
 subst hgg;have hrr:r=r':=by omega
 subst hrr;have hxy:x=y:=jK h.nd hx hy (List.mem_of_getElem? hg) (List.mem_of_getElem? hg');subst hxy;have hmm:=zem (vS hx h.nd) hg hg';subst hmm;exact⟨rfl,by omega⟩
theorem vU(h:Chs S L)(hB:2^S.sh=B){x:Ch}(hx:x∈L){p:Nat}(hp:p<x.c.length*B): ∃F,S.fs[zy x.c B p/B]? =some F∧F.o=x.q∧F.s=x.st∧zy x.c B p/B<S.fs.length∧zy x.c B p<S.ws.length:=by
 have hb1:=(yG h.sh).1;rw[hB]at hb1;obtain⟨m,g,r,hg,hr,hm,ha,hd⟩:=za5 (B:=B) (by omega) hp;have hF:=h.fr x hx m g hg;rw[hd];have hgl:=(List.getElem?_eq_some_iff.1 hF).1;refine⟨_,hF,rfl,rfl,hgl,?_⟩;rw[ha,h.wl,hB];have:(g+1)*B<=S.fs.length*B:=Nat.mul_le_mul_right _ hgl;rw[Nat.succ_mul]at this;omega
end
structure AO where
 r:Nat
 d:Nat
 f:Nat->Nat
def AO.n(x:AO):Nat:=1+x.r+x.d
def Fwd(O:List AO)(M:List (AO×AO))(v v':Int):Prop:=(v'=v∧∀o∈O,v≠(o.f 0:Int)+1)∨∃p∈M,v=(p.1.f 0:Int)+1∧v'=(p.2.f 0:Int)+1
theorem Fwd.mono{O:List AO}{M M':List (AO×AO)}{v v':Int}(h:Fwd O M v v')(hs: ∀p∈M,p∈M'):Fwd O M' v v':=by
 rcases h with h|⟨p,hp,h⟩
 ·exact .inl h
 ·exact .inr ⟨p,hs p hp,h⟩
def zqa(O:List AO):Prop:= ∀o∈O,∀o'∈O,∀j k,j<o.n->k<o'.n->o.f j=o'.f k->o=o'∧j=k
structure Cy(O:List AO)(w0 w:Nat->Int)(M:List (AO×AO))(sc:Nat->Nat->Prop):Prop where
 nd:(M.map (·.1.f 0)).Nodup
 old: ∀p∈M,p.1∈O∧p.2.r=p.1.r∧p.2.d=p.1.d∧w (p.1.f 0)=2*(p.2.f 0:Int)+1
 here: ∀o∈O,o.f 0∉M.map (·.1.f 0) ->w (o.f 0)=w0 (o.f 0)
 oldf: ∀o∈O,∀k,0<k->k<o.n->w (o.f k)=w0 (o.f k)
 newh: ∀p∈M,w (p.2.f 0)=w0 (p.1.f 0)
 newd: ∀p∈M,∀e,e<p.1.d->w (p.2.f (1+p.1.r+e))=w0 (p.1.f (1+p.1.r+e))
 newr: ∀(i:Nat) (p:AO×AO),M[i]? =some p-> ∀e,e<p.1.r->(sc i e->Fwd O M (w0 (p.1.f (1+e))) (w (p.2.f (1+e))))∧(¬sc i e->w (p.2.f (1+e))=w0 (p.1.f (1+e)))
 rest: ∀t,(∀o∈O,∀k,k<o.n->t≠o.f k) ->(∀p∈M,∀k,k<p.2.n->t≠p.2.f k) ->w t=w0 t
 fresh: ∀p∈M,∀k,k<p.2.n-> ∀o∈O,∀j,j<o.n->p.2.f k≠o.f j
 apart: ∀(i j:Nat) (p q:AO×AO),M[i]? =some p->M[j]? =some q-> ∀k l,k<p.2.n->l<q.2.n->p.2.f k=q.2.f l->i=j∧k=l
theorem Cy.start(O:List AO)(w0:Nat->Int)(sc:Nat->Nat->Prop):Cy O w0 w0 [] sc:=
 ⟨by simp,by simp,fun _ _ _=>rfl,fun _ _ _ _ _=>rfl,by simp,by simp,by simp,fun _ _ _=>rfl,by simp,by simp⟩
section
variable{O:List AO} {w0 w w':Nat->Int} {M:List (AO×AO)} {sc sc':Nat->Nat->Prop}
theorem Cy.same(h:Cy O w0 w M sc)(hs: ∀i e,i<M.length->(sc' i e↔sc i e)):Cy O w0 w M sc':=by
 refine⟨h.nd,h.old,h.here,h.oldf,h.newh,h.newd,fun i p hp e he=> ?_,h.rest,h.fresh,h.apart⟩;have hi:=(List.getElem?_eq_some_iff.1 hp).1;rw[hs i e hi];exact h.newr i p hp e he
theorem Cy.push(h:Cy O w0 w M sc)(hO:zqa O){o n:AO}(ho:o∈O)(hM:o.f 0∉M.map (·.1.f 0))(hr:n.r=o.r)(hd:n.d=o.d)
 (hf: ∀k,k<n.n-> ∀o'∈O,∀j,j<o'.n->n.f k≠o'.f j) (ha: ∀p∈M,∀k l,k<n.n->l<p.2.n->n.f k≠p.2.f l) (hi: ∀k l,k<n.n->l<n.n->n.f k=n.f l->k=l)
 (hc: ∀k,k<n.n->w' (n.f k)=w (o.f k)) (hw:w' (o.f 0)=2*(n.f 0:Int)+1) (hx: ∀t,t≠o.f 0->(∀k,k<n.n->t≠n.f k) ->w' t=w t) (hs: ∀e,¬sc M.length e):
 Cy O w0 w' (M++ [(o,n)]) sc:=by
 have hn:n.n=o.n:=by unfold AO.n;omega
 have h0n:0<n.n:=by unfold AO.n;omega
 have h0o:0<o.n:=by omega
 have hcopy: ∀p∈M,∀k,k<p.2.n->w' (p.2.f k)=w (p.2.f k):=fun p hp k hk=>
  hx _ (h.fresh p hp k hk o ho 0 h0o) (fun l hl=>fun e=>ha p hp l k hl hk e.symm)
 have hold: ∀o'∈O,∀k,k<o'.n->(o'≠o∨k≠0) ->w' (o'.f k)=w (o'.f k):=fun o' ho' k hk hne=>by
  refine hx _ (fun e=> ?_) (fun l hl e=>hf l hl o' ho' k hk e.symm);obtain⟨h1,h2⟩:=hO o' ho' o ho k 0 hk h0o e;rcases hne with hne|hne
  ·exact hne h1
  ·exact hne h2
 refine⟨?_,?_,?_,?_,?_,?_,?_,?_,?_,?_⟩
 ·rw[List.map_append]
  refine List.nodup_append.2 ⟨h.nd,by simp,?_⟩;intro x hx' y hy;simp only[List.map_cons,List.map_nil,List.mem_singleton]at hy;subst hy;rintro rfl;exact hM hx'
 ·intro p hp
  rcases List.mem_append.1 hp with hp|hp
  ·obtain⟨h1,h2,h3,h4⟩:=h.old p hp
   refine⟨h1,h2,h3,?_⟩;rw[hold p.1 h1 0 (by unfold AO.n;omega) (.inl fun e=>hM (by rw[<-e];exact List.mem_map.2 ⟨p,hp,rfl⟩))];exact h4
  ·simp only[List.mem_singleton]at hp
   subst hp;exact⟨ho,hr,hd,hw⟩
 ·intro o' ho' hm
  rw[List.map_append,List.mem_append,not_or]at hm;have hne:o'≠o:=fun e=>hm.2 (by subst e;simp)
  rw[hold o' ho' 0 (by unfold AO.n;omega) (.inl hne)];exact h.here o' ho' hm.1
 ·intro o' ho' k hk hkn
  rw[hold o' ho' k hkn (.inr (by omega))];exact h.oldf o' ho' k hk hkn
 ·intro p hp
  rcases List.mem_append.1 hp with hp|hp
  ·rw[hcopy p hp 0 (by unfold AO.n;omega)]
   exact h.newh p hp
  ·simp only[List.mem_singleton]at hp
   subst hp;show w' (n.f 0)=w0 (o.f 0);rw[hc 0 h0n];exact h.here o ho hM
 ·intro p hp e he
  rcases List.mem_append.1 hp with hp|hp
  ·obtain⟨_,h2,h3,_⟩:=h.old p hp
   rw[hcopy p hp _ (by unfold AO.n;omega)];exact h.newd p hp e he
  ·simp only[List.mem_singleton]at hp
   subst hp;show w' (n.f (1+o.r+e))=w0 (o.f (1+o.r+e));simp only at he;rw[hc _ (by unfold AO.n;omega)];exact h.oldf o ho _ (by omega) (by unfold AO.n;omega)
 ·intro i p hp e he
  rcases Nat.lt_or_ge i M.length with hlt|hge
  ·rw[List.getElem?_append_left hlt]at hp
   have hpm:=List.mem_of_getElem? hp;obtain⟨_,h2,h3,_⟩:=h.old p hpm;rw[hcopy p hpm _ (by unfold AO.n;omega)];obtain⟨h4,h5⟩:=h.newr i p hp e he;exact⟨fun hsc=>(h4 hsc).mono (fun q hq=>List.mem_append_left _ hq),h5⟩
  ·have hil:i=M.length:=by have:=(List.getElem?_eq_some_iff.1 hp).1;simp at this;omega
   subst hil;rw[List.getElem?_append_right (Nat.le_refl _)]at hp;simp only[Nat.sub_self,List.getElem?_cons_zero,Option.some.injEq]at hp;subst hp;refine⟨fun hsc=>absurd hsc (hs e),fun _=> ?_⟩;show w' (n.f (1+e))=w0 (o.f (1+e));simp only at he;rw[hc _ (by unfold AO.n;omega)];exact h.oldf o ho _ (by omega) (by unfold AO.n;omega)
 ·intro t h1 h2
  rw[hx t (h1 o ho 0 h0o) (fun k hk=>h2 (o,n) (by simp) k hk)];exact h.rest t h1 (fun p hp=>h2 p (List.mem_append_left _ hp))
 ·intro p hp
  rcases List.mem_append.1 hp with hp|hp
  ·exact h.fresh p hp
  ·simp only[List.mem_singleton]at hp
   subst hp;exact hf
 ·intro i j p q hp hq k l hk hl he
  rcases Nat.lt_or_ge i M.length with hi1|hi1
  ·rw[List.getElem?_append_left hi1]at hp
   rcases Nat.lt_or_ge j M.length with hj1|hj1
   ·rw[List.getElem?_append_left hj1]at hq
    exact h.apart i j p q hp hq k l hk hl he
   ·have hjl:j=M.length:=by have:=(List.getElem?_eq_some_iff.1 hq).1;simp at this;omega
    subst hjl;rw[List.getElem?_append_right (Nat.le_refl _)]at hq;simp only[Nat.sub_self,List.getElem?_cons_zero,Option.some.injEq]at hq;subst hq;exact absurd he.symm (ha p (List.mem_of_getElem? hp) l k hl hk)
  ·have hil:i=M.length:=by have:=(List.getElem?_eq_some_iff.1 hp).1;simp at this;omega
   subst hil;rw[List.getElem?_append_right (Nat.le_refl _)]at hp;simp only[Nat.sub_self,List.getElem?_cons_zero,Option.some.injEq]at hp;subst hp;rcases Nat.lt_or_ge j M.length with hj1|hj1
   ·rw[List.getElem?_append_left hj1]at hq
    exact absurd he (ha q (List.mem_of_getElem? hq) k l hk hl)
   ·have hjl:j=M.length:=by have:=(List.getElem?_eq_some_iff.1 hq).1;simp at this;omega
    subst hjl;rw[List.getElem?_append_right (Nat.le_refl _)]at hq;simp only[Nat.sub_self,List.getElem?_cons_zero,Option.some.injEq]at hq;subst hq;exact⟨rfl,hi k l hk hl he⟩
theorem Cy.scan(h:Cy O w0 w M sc){i:Nat}{p:AO×AO}{e:Nat}{v:Int}(hp:M[i]? =some p)(he:e<p.1.r)(hv:Fwd O M (w0 (p.1.f (1+e))) v)(h1:w' (p.2.f (1+e))=v)(h2: ∀t,t≠p.2.f (1+e) ->w' t=w t)
 (hs: ∀j k,sc' j k↔sc j k∨(j=i∧k=e)):Cy O w0 w' M sc':=by
 have hpm:=List.mem_of_getElem? hp;obtain⟨_,hr,hd,_⟩:=h.old p hpm;have hk:1+e<p.2.n:=by unfold AO.n;omega
 have hO: ∀o∈O,∀k,k<o.n->w' (o.f k)=w (o.f k):=fun o ho k hk'=>h2 _ (fun e'=>h.fresh p hpm _ hk o ho k hk' e'.symm)
 have hN: ∀j q,M[j]? =some q-> ∀k,k<q.2.n->(j≠i∨k≠1+e) ->w' (q.2.f k)=w (q.2.f k):=fun j q hq k hk' hne=>h2 _ (fun e'=>by
  obtain⟨a,b⟩:=h.apart j i q p hq hp k (1+e) hk' hk e';rcases hne with hne|hne
  ·exact hne a
  ·exact hne b)
 refine⟨h.nd,?_,?_,?_,?_,?_,?_,?_,h.fresh,h.apart⟩
 ·intro q hq
  obtain⟨a,b,c,d⟩:=h.old q hq;exact⟨a,b,c,by rw[hO q.1 a 0 (by unfold AO.n;omega)];exact d⟩
 ·intro o ho hm
  rw[hO o ho 0 (by unfold AO.n;omega)];exact h.here o ho hm
 ·intro o ho k hk1 hk2
  rw[hO o ho k hk2];exact h.oldf o ho k hk1 hk2
 ·intro q hq
  obtain⟨j,hj⟩:=List.mem_iff_getElem?.1 hq;rw[hN j q hj 0 (by unfold AO.n;omega) (.inr (by omega))];exact h.newh q hq
 ·intro q hq e' he'
  obtain⟨j,hj⟩:=List.mem_iff_getElem?.1 hq;obtain⟨_,b,c,_⟩:=h.old q hq
  rw[hN j q hj _ (by unfold AO.n;omega) (by
   by_cases hji:j=i
   ·subst hji
    rw[hp]at hj;injection hj with hj;subst hj;exact .inr (by omega)
   ·exact .inl hji)]
  exact h.newd q hq e' he'
 ·intro j q hj e' he'
  obtain⟨_,b,c,_⟩:=h.old q (List.mem_of_getElem? hj);obtain⟨h3,h4⟩:=h.newr j q hj e' he';by_cases hji:j=i∧e'=e
  ·obtain⟨rfl,rfl⟩:=hji
   rw[hp]at hj;injection hj with hj;subst hj;exact⟨fun _=>by rw[h1];exact hv,fun hn=>absurd ((hs j e').2 (.inr ⟨rfl,rfl⟩)) hn⟩
  ·rw[hN j q hj _ (by unfold AO.n;omega) (by
    by_cases hjj:j=i
    ·exact .inr (fun e2=>hji ⟨hjj,by omega⟩)
    ·exact .inl hjj)]
   refine⟨fun hsc=>h3 ?_,fun hn=>h4 (fun hsc=>hn ((hs j e').2 (.inl hsc)))⟩;rcases(hs j e').1 hsc with hsc|hsc
   ·exact hsc
   ·exact absurd hsc hji
 ·intro t ht1 ht2
  rw[h2 t (ht2 p hpm _ hk)];exact h.rest t ht1 ht2
end
def Sp.w(S:Sp)(t:Nat):Int:=S.ws.getD t 0
def zZ(B:Nat)(c:List Nat)(b:Ob):AO:=⟨b.r,b.d,fun k=>if k<b.n then zy c B (b.o+k)else 0⟩
theorem yn{B:Nat}{c:List Nat}{b:Ob}{k:Nat}(h:k<b.n):(zZ B c b).f k=zy c B (b.o+k):=if_pos h
theorem zlp{c d:List Nat}{B p:Nat}(hB:0<B)(h:p<c.length*B):zy (c++d) B p=zy c B p:=by
 unfold zy;rw[List.getD_eq_getElem?_getD,List.getD_eq_getElem?_getD,List.getElem?_append_left ((Nat.div_lt_iff_lt_mul hB).2 h)]
theorem v7{B:Nat}{c d:List Nat}{b:Ob}(hB:0<B)(h:b.o+b.n<=c.length*B):zZ B (c++d) b=zZ B c b:=by
 unfold zZ;congr 1;funext k;by_cases hk:k<b.n
 ·rw[if_pos hk,if_pos hk,zlp hB (by omega)]
 ·rw[if_neg hk,if_neg hk]
def In.ao(B:Nat)(i:In):List AO:=i.obs.map (zZ B i.x.c)
def aos(B:Nat)(I:List In):List AO:=I.flatMap (In.ao B)
theorem zK{B:Nat}{I:List In}{o:AO}:o∈aos B I↔∃i∈I,∃b∈i.obs,zZ B i.x.c b=o:=by
 simp only[aos,List.mem_flatMap,In.ao,List.mem_map]
def Ptr(O:List AO)(v:Int):Prop:=v=0∨∃o∈O,v=(o.f 0:Int)+1
theorem Ptr.mono{O O':List AO}{v:Int}(h:Ptr O v)(hs: ∀o∈O,o∈O'):Ptr O' v:=by
 rcases h with h|⟨o,ho,h⟩
 ·exact .inl h
 ·exact .inr ⟨o,hs o ho,h⟩
structure Lay(S:Sp)(B:Nat)(I:List In):Prop where
 pow:2^S.sh=B
 ch:Chs S (I.map (·.x))
 fit: ∀i∈I,yJ i.wd B=i.x.c.length
 tile: ∀i∈I,yS 0 i.obs i.wd
structure Hok(S:Sp)(B:Nat)(I:List In):Prop where
 lay:Lay S B I
 head: ∀o∈aos B I,o.r<=15∧o.d<=32∧S.w (o.f 0)=hd o.r o.d
 refs: ∀o∈aos B I,∀e,e<o.r->Ptr (aos B I) (S.w (o.f (1+e)))
section
variable{S:Sp} {B:Nat} {I:List In}
theorem Lay.B8(h:Lay S B I):8<=B∧B<=256:=by
 have:=yG h.ch.sh;rw[h.pow]at this;exact this
theorem Lay.in_(h:Lay S B I){i:In}(hi:i∈I){b:Ob}(hb:b∈i.obs){k:Nat}(hk:k<b.n):b.o+k<i.x.c.length*B:=by
 have h1:=yS.mem (h.tile i hi) b hb;have h2:=xL (B:=B) (by have:=h.B8;omega) (Nat.le_of_eq (h.fit i hi));omega
theorem Lay.mem(_:Lay S B I){i:In}(hi:i∈I):i.x∈I.map (·.x):=List.mem_map.2 ⟨i,hi,rfl⟩
theorem Lay.same(h:Lay S B I){i j:In}(hi:i∈I)(hj:j∈I)(he:i.x.q=j.x.q):i=j:=by
 have hq:=h.ch.sq;rw[List.map_map]at hq;clear h;induction I with
 |nil=>cases hi
 |cons a I ih=>
  simp only[List.map_cons,List.nodup_cons,Function.comp,List.mem_map,not_exists,not_and]at hq;rcases List.mem_cons.1 hi with hi1|hi1
  ·rcases List.mem_cons.1 hj with hj1|hj1
   ·rw[hi1,hj1]
   ·subst hi1
    exact absurd he.symm (hq.1 j hj1)
  ·rcases List.mem_cons.1 hj with hj1|hj1
   ·subst hj1
    exact absurd he (hq.1 i hi1)
   ·exact ih hi1 hj1 hq.2
theorem Lay.apart(h:Lay S B I):zqa (aos B I):=by
 intro o ho o' ho' j k hj hk he;obtain⟨i,hi,b,hb,rfl⟩:=zK.1 ho;obtain⟨i',hi',b',hb',rfl⟩:=zK.1 ho';have hj':j<b.n:=hj;have hk':k<b'.n:=hk;rw[yn hj',yn hk']at he;obtain⟨h1,h2⟩:=qx h.ch (by have:=h.B8;omega) (h.mem hi) (h.mem hi') (h.in_ hi hb hj') (h.in_ hi' hb' hk') he;have:i=i':=h.same hi hi' (by rw[h1]);subst this;obtain⟨rfl,h4⟩:=yS.inj (h.tile i hi) b hb b' hb' j k hj' hk' h2;exact⟨rfl,h4⟩
theorem Lay.owner(h:Lay S B I){i:In}(hi:i∈I){b:Ob}(hb:b∈i.obs){k:Nat}(hk:k<b.n): ∃F,S.fs[(zZ B i.x.c b).f k/B]? =some F∧F.o=i.x.q∧F.s=i.x.st∧(zZ B i.x.c b).f k/B<S.fs.length∧(zZ B i.x.c b).f k<S.ws.length:=by
 rw[yn hk];exact vU h.ch h.pow (h.mem hi) (h.in_ hi hb hk)
theorem Lay.len(h:Lay S B I){i:In}(hi:i∈I):i.wd<=16384:=by
 have h1:=xL (B:=B) (by have:=h.B8;omega) (Nat.le_of_eq (h.fit i hi));have h2:=h.ch.len_ch (h.mem hi);have h3:=h.ch.n2.2;have h4:=h.B8.2;have h5:i.x.c.length*B<=64*256:=Nat.mul_le_mul (by omega) h4;omega
theorem qK{I J:List In}(h: ∀i∈I,i∈J){o:AO}(ho:o∈aos B I):o∈aos B J:=by
 obtain⟨i,hi,b,hb,e⟩:=zK.1 ho;exact zK.2 ⟨i,h i hi,b,hb,e⟩
end
theorem zeu{B:Nat}: ∀(C:List In) (M:List AO),(∀i∈C,yS 0 i.obs i.wd) ->M.Nodup->(∀o∈M,o∈aos B C) ->(M.map AO.n).sum<=(C.map (·.wd)).sum:=by
 have step: ∀(l:List Nat) (O:List AO) (M:List AO),l=O.map AO.n->M.Nodup->(∀o∈M,o∈O) ->(M.map AO.n).sum<=l.sum:=by
  intro l O M hl;subst hl;induction M generalizing O with
  |nil=>intro _ _;simp
  |cons o M ih=>
   intro hn hs;have ho:=hs o List.mem_cons_self;obtain⟨O1,O2,rfl⟩:=List.append_of_mem ho;have hn':=List.nodup_cons.1 hn
   have:=ih (O1++O2) hn'.2 (fun x hx=>by
    have h1:=hs x (List.mem_cons_of_mem _ hx);rcases List.mem_append.1 h1 with h1|h1
    ·exact List.mem_append_left _ h1
    ·rcases List.mem_cons.1 h1 with rfl|h1
     ·exact absurd hx hn'.1
     ·exact List.mem_append_right _ h1)
   simp only[List.map_cons,List.sum_cons,List.map_append,List.sum_append]at this|-;omega
 intro C M ht hn hs;refine Nat.le_trans (step _ (aos B C) M rfl hn hs) ?_;clear hs hn step;induction C with
 |nil=>simp[aos]
 |cons i C ih=>
  have h1:=ih (fun j hj=>ht j (List.mem_cons_of_mem _ hj));have h2:=yS.total (ht i List.mem_cons_self)
  have h3:((i.ao B).map AO.n).sum=total i.obs:=by
   unfold In.ao;generalize i.obs=l;induction l with
   |nil=>rfl
   |cons b l ih=>simp only[List.map_cons,List.sum_cons,ih];rfl
  simp only[aos,List.flatMap_cons,List.map_append,List.sum_append,List.map_cons,List.sum_cons]at h1|-;rw[h3];omega
end Go.Proofs.YtopcdfbplknmlaaGreat
