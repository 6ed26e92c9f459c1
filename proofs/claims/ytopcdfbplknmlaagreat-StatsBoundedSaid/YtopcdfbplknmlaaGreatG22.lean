/- Part of the proof of the claim: walks and plain laws; each theorem states its own conditions. -/
import Derived.Test.YtopcdfbplknmlaaGreatL
import Derived.Test.YtopcdfbplknmlaaGreatG4
set_option linter.all false
set_option maxHeartbeats 1000000
set_option maxRecDepth 100000
namespace Go.Proofs.YtopcdfbplknmlaaGreat.Mo
open Go.RowKit Go.Draw
theorem zG(d:Nat)(m:Int)(w:World)(hd:Dk w d)(hm:1<=m)(hm2:m<=9223372036854775807):
 Calls Tryz.prog 17 #[.pointer (some ⟨d,0,none⟩),.int .i64 m] w fun r w'=> ∃x,r= .returned (.int .i64 x)∧0<=x∧x<m∧Dk w' d∧But [d] w w':=by
 obtain⟨A,n,c,k,zs,h1,h2,h3,h4,hAd⟩:=hd;have hc:=h1.cell;have hf:=h1.froz;have hkb:(k:Int)<=9223372036854775807:=by omega
 by_cases hlt:k<n
 ·obtain⟨b,o,u,rfl,hku,hcell⟩:=h2.at_ hlt
  obtain⟨z,rfl⟩: ∃z,u= .int .i64 z:=by
   simp only[yb,List.getElem?_map,Option.map_eq_some_iff]at hku;obtain⟨z,_,h⟩:=hku;exact⟨z,h.symm⟩
  have hbl:b<d:=hAd (by omega) _ rfl;have hbd:b≠d:=by omega
  have hdb:d≠b:=fun e=>hbd e.symm
  have hdec:decide ((n:Int)<=k)=false:=by simp;omega
  have hdec':decide (n<=k)=false:=by simp;omega
  have b1:(k:Int)+1-1=k:=by omega
  have b2:(k:Int)<n:=by omega
  have hr0:=Int.emod_nonneg z (b:=m) (by omega);have hr1:=Int.emod_lt_of_pos z (b:=m) (by omega);have Hku:=Lib.hid hku;clear hku;go_enter Tryz.func17,Tryz.ntmps17;go_wp2;refine jRE [(true,0),(true,1),(true,2),(true,3),(true,4),(true,5),(true,6),(true,7),(true,8),(true,9)] Tryz.mixed fun hx=> ?_
  repeat(first
   |refine jLE hx ?_
   |refine jLS ?_
   |(refine yo hx (fun K hK=> ?_);go_simp;(first|refine hK _ _ jX ?_|refine hK undef _ jX ?_);clear hK hx;intro hx;try refine jq ?_))
  refine zH ?_;go_wp2;refine jRE [(true,0),(true,1),(true,2),(true,3),(true,4),(true,5),(true,6),(true,7),(true,8),(true,9),(true,10),(true,11),(false,12),(true,13)] Tryz.mixed fun hx=> ?_
  repeat(first
   |refine jLE hx ?_
   |refine jLS ?_
   |(refine yo hx (fun K hK=> ?_);go_simp;go_at_call 29;refine(zil _ _ _ (by omega) (by omega)).mono ?_;rintro e w1 ⟨rfl,rfl⟩;refine hK _ _ (Ext.refl _) ?_;clear hK hx;intro hx;refine jq ?_)
   |(refine yo hx (fun K hK=> ?_);go_simp;(first|refine hK _ _ jX ?_|refine hK undef _ jX ?_);clear hK hx;intro hx;try refine jq ?_))
  refine zH ?_;go_wp2;go_ret;have hB:But [d] w (w.setCell ⟨d,1,none⟩ (.int .i64 ((k:Int)+1))).drew.drew:=But.drew (But.drew (But.setCell (But.refl _ _) (by simp) _));refine⟨_,rfl,hr0,hr1,⟨some ⟨b,o,none⟩,n,c,k+1,zs,?_,qm h2 hB (fun h0 ad h=>by simp only[List.mem_singleton];have:=hAd h0 ad h;omega),by omega,h4,hAd⟩,hB⟩;have:=(h1.set_ 1 (.int .i64 ((k:Int)+1))).drew.drew;exact this
 ·have hdec:decide ((n:Int)<=k)=true:=by simp;omega
  go_enter Tryz.func17,Tryz.ntmps17;go_wp2;refine jRE [(true,0),(true,1),(true,2),(true,3),(true,4),(true,5),(true,6),(true,7),(true,8),(true,9)] Tryz.mixed fun hx=> ?_
  repeat(first
   |refine jLE hx ?_
   |refine jLS ?_
   |(refine yo hx (fun K hK=> ?_);go_simp;(first|refine hK _ _ jX ?_|refine hK undef _ jX ?_);clear hK hx;intro hx;try refine jq ?_))
  refine zH ?_;go_wp2;go_ret;have hE:Ext w w.drew:=by exact jX
  exact⟨0,rfl,by omega,by omega,Dk.ext ⟨A,n,c,k,zs,h1,h2,h3,h4,hAd⟩ hE,hE.but _⟩
structure Gr where
 ns:List (List Int×List Int)
 us:List Bool
 rs:List Int
def vb(l:List Bool):List Value:=l.map .bool
def zal:List (Value×Value) ->List Value
 | []=> []
 |p::l=>p.1::p.2::zal l
theorem kH: ∀l,(zal l).length=l.length*2
 | []=>rfl
 |p::l=>by simp only[zal,List.length_cons,kH l];omega
theorem vt: ∀(l:List (Value×Value)) (i:Nat) (p:Value×Value),l[i]? =some p->(zal l)[i*2]? =some p.1∧(zal l)[i*2+1]? =some p.2
 | [],i,p,h=>by simp at h
 |q::l,0,p,h=>by
  simp only[List.getElem?_cons_zero,Option.some.injEq]at h;subst h;exact⟨rfl,rfl⟩
 |q::l,i+1,p,h=>by
  simp only[List.getElem?_cons_succ]at h;have:=vt l i p h;rw[show(i+1)*2=i*2+1+1 by omega];exact this
theorem zax: ∀(l:List (Value×Value)) (p:Value×Value),zal (l++ [p])=zal l++ [p.1,p.2]
 | [],p=>rfl
 |q::l,p=>by simp only[List.cons_append,zal,zax l p]
theorem zay{l:List Bool}{i:Nat}{z:Bool}(h:l[i]? =some z):(vb l)[i]? =some (.bool z):=by simp[vb,h]
theorem zgi(l:List Int)(i:Nat)(z:Int):yb (l.set i z)=(yb l).set i (.int .i64 z):=by simp[yb,List.map_set]
theorem znr(l:List Bool)(i:Nat)(z:Bool):vb (l.set i z)=(vb l).set i (.bool z):=by simp[vb,List.map_set]
theorem zns(zs:List Bool): ∀u∈vb zs,u.oneCell'=true:=by
 intro u hu;simp only[vb,List.mem_map]at hu;obtain⟨z,_,rfl⟩:=hu;rfl
theorem Tryz.el24:Elem Tryz.prog 32 4 (.bool false) 1 1:=⟨Tryz.underlying32,by kernel_rfl,rfl,by omega⟩
theorem Tryz.el22:Elem Tryz.prog 22 3 (.int .i64 0) 1 8:=⟨Tryz.underlying22,by kernel_rfl,rfl,by omega⟩
theorem Tryz.el47:Elem Tryz.prog 26 67 (.int .u64 0) 1 8:=⟨Tryz.underlying26,by kernel_rfl,rfl,by omega⟩
theorem Tryz.el23:Elem Tryz.prog 39 106 (.agg #[.slice none 0 0,.slice none 0 0]) 2 48:=⟨Tryz.underlying39,by kernel_rfl,rfl,by omega⟩
def zpw(w:World)(p:Value×Value)(x:List Int×List Int):Prop:= ∃A c B d,p=(.slice A x.1.length c,.slice B x.2.length d)∧Rd w A x.1.length 1 (yb x.1)∧Rd w B x.2.length 1 (words x.2)
def GRd(w:World)(v:Value)(g:Gr):Prop:= ∃A a B b C c ps,v= .agg #[.slice A g.ns.length a,.slice B g.us.length b,.slice C g.rs.length c]∧
 Rd w A g.ns.length 2 (zal ps)∧Rd w B g.us.length 1 (vb g.us)∧Rd w C g.rs.length 1 (yb g.rs)∧∀(i:Nat) (p:Value×Value) (x:List Int×List Int),ps[i]? =some p->g.ns[i]? =some x->zpw w p x
theorem zpw.ext{w w':World}{p:Value×Value}{x:List Int×List Int}(h:zpw w p x)(he:Ext w w'):zpw w' p x:=by
 obtain⟨A,c,B,d,hp,h1,h2⟩:=h;exact⟨A,c,B,d,hp,h1.ext he,h2.ext he⟩
theorem GRd.ext{w w':World}{v:Value}{g:Gr}(h:GRd w v g)(he:Ext w w'):GRd w' v g:=by
 obtain⟨A,a,B,b,C,c,ps,hv,h1,h2,h3,h4⟩:=h;exact⟨A,a,B,b,C,c,ps,hv,h1.ext he,h2.ext he,h3.ext he,fun i p x hp hx=>(h4 i p x hp hx).ext he⟩
inductive Ky where
 |A|B|C
 |R (i:Nat)
 |D (i:Nat)
def kv(vA vB vC:Value)(ps:List (Value×Value)):Ky->Option Nat
 | .A=>vA.ownBlock
 | .B=>vB.ownBlock
 | .C=>vC.ownBlock
 | .R i=>ps[i]?.bind (·.1.ownBlock)
 | .D i=>ps[i]?.bind (·.2.ownBlock)
structure GOwn(w:World)(base o:Nat)(vA vB vC:Value)(ps:List (Value×Value))(g:Gr):Prop where
 nodes:w.ownsRow base 106 2 vA g.ns.length (zal ps)
 used:w.ownsRow base 4 1 vB g.us.length (vb g.us)
 roots:w.ownsRow base 3 1 vC g.rs.length (yb g.rs)
 each: ∀(i:Nat) (p:Value×Value) (x:List Int×List Int),ps[i]? =some p->g.ns[i]? =some x->w.ownsRow base 3 1 p.1 x.1.length (yb x.1)∧w.ownsRow base 67 1 p.2 x.2.length (words x.2)
 apart: ∀k k' b,kv vA vB vC ps k=some b->kv vA vB vC ps k'=some b->k=k'
 off: ∀k,kv vA vB vC ps k≠some o
theorem own_slice{w:World}{base:Nat}{e:TypeId}{size n:Nat}{v:Value}{xs:List Value}(h:w.ownsRow base e size v n xs): ∃A c,v= .slice A n c:=by
 rcases h.2 with⟨h0,hz⟩|⟨g,cap,cur,hv,_⟩
 ·exact⟨none,0,by rw[h0,hz]⟩
 ·exact⟨_,cap,hv⟩
theorem jh{w:World}{base:Nat}{e:TypeId}{size n:Nat}{v:Value}{xs:List Value}(h:w.ownsRow base e size v n xs)(hn:0<n): ∃b c,v= .slice (some ⟨b,0,none⟩) n c:=by
 rcases h.2 with⟨h0,hz⟩|⟨g,cap,cur,hv,_⟩
 ·omega
 ·exact⟨_,cap,hv⟩
section
variable{w w':World} {base o:Nat} {vA vB vC:Value} {ps:List (Value×Value)} {g:Gr}
theorem GOwn.len(h:GOwn w base o vA vB vC ps g):ps.length=g.ns.length:=by
 have:=h.nodes.1;rw[kH]at this;omega
theorem GOwn.pair(h:GOwn w base o vA vB vC ps g){i:Nat}{p:Value×Value}(hp:ps[i]? =some p): ∃x,g.ns[i]? =some x∧w.ownsRow base 3 1 p.1 x.1.length (yb x.1)∧w.ownsRow base 67 1 p.2 x.2.length (words x.2):=by
 have hl:=(List.getElem?_eq_some_iff.1 hp).1;rw[h.len]at hl;exact⟨_,List.getElem?_eq_getElem hl,h.each i p _ hp (List.getElem?_eq_getElem hl)⟩
theorem GOwn.lt(h:GOwn w base o vA vB vC ps g): ∀k b,kv vA vB vC ps k=some b->base<=b∧b<w.heap.size
 | .A,b,hk=>World.ownsRow.lt h.nodes b hk
 | .B,b,hk=>World.ownsRow.lt h.used b hk
 | .C,b,hk=>World.ownsRow.lt h.roots b hk
 | .R i,b,hk=>by
   simp only[kv,Option.bind_eq_some_iff]at hk;obtain⟨p,hp,hb⟩:=hk;obtain⟨x,_,h1,_⟩:=h.pair hp;exact World.ownsRow.lt h1 b hb
 | .D i,b,hk=>by
   simp only[kv,Option.bind_eq_some_iff]at hk;obtain⟨p,hp,hb⟩:=hk;obtain⟨x,_,_,h1⟩:=h.pair hp;exact World.ownsRow.lt h1 b hb
theorem GOwn.but{S:List Nat}(h:GOwn w base o vA vB vC ps g)(he:But S w w')(hS: ∀k b,kv vA vB vC ps k=some b->b∉S):GOwn w' base o vA vB vC ps g:=
 ⟨zo h.nodes he (fun b hb=>hS .A b hb),zo h.used he (fun b hb=>hS .B b hb),zo h.roots he (fun b hb=>hS .C b hb),
   fun i p x hp hx=>⟨zo (h.each i p x hp hx).1 he (fun b hb=>hS (.R i) b (by simp only[kv,hp,Option.bind_some,hb])),zo (h.each i p x hp hx).2 he (fun b hb=>hS (.D i) b (by simp only[kv,hp,Option.bind_some,hb]))⟩,h.apart,h.off⟩
theorem GOwn.ext(h:GOwn w base o vA vB vC ps g)(he:Ext w w'):GOwn w' base o vA vB vC ps g:=h.but (he.but []) (fun _ _ _=>by simp)
theorem GOwn.base_(h:GOwn w base o vA vB vC ps g){base':Nat}(hb:base'<=base):GOwn w base' o vA vB vC ps g:=
 ⟨zu h.nodes hb,zu h.used hb,zu h.roots hb,fun i p x hp hx=>⟨zu (h.each i p x hp hx).1 hb,zu (h.each i p x hp hx).2 hb⟩,h.apart,h.off⟩
theorem GOwn.off_(h:GOwn w base o vA vB vC ps g){o':Nat}(ho:w.heap.size<=o'):GOwn w base o' vA vB vC ps g:=
 ⟨h.nodes,h.used,h.roots,h.each,h.apart,fun k hk=>by have:=(h.lt k o' hk).2;omega⟩
theorem GOwn.offb(h:GOwn w base o vA vB vC ps g){o':Nat}(ho:o'<base):GOwn w base o' vA vB vC ps g:=
 ⟨h.nodes,h.used,h.roots,h.each,h.apart,fun k hk=>by have:=(h.lt k o' hk).1;omega⟩
theorem GOwn.far(h:GOwn w base o vA vB vC ps g){a:Addr}(ha: ∀k,kv vA vB vC ps k≠some a.block)(u:Value):GOwn (w.setCell a u) base o vA vB vC ps g:=
 h.but (But.setCell (S:= [a.block]) (But.refl _ _) (by simp) u) (fun k b hk hb=>by have:=List.mem_singleton.1 hb;subst this;exact ha k hk)
theorem GOwn.setU{b n c:Nat}(h:GOwn w base o vA vB vC ps g)(hv:vB= .slice (some ⟨b,0,none⟩) n c)(i:Nat)(u:Bool):GOwn (w.setCell ⟨b,i,none⟩ (.bool u)) base o vA vB vC ps {g with us:=g.us.set i u}:=by
 have hk:kv vA vB vC ps .B=some b:=by rw[hv];rfl
 have hB:But [b] w (w.setCell ⟨b,i,none⟩ (.bool u)):=But.setCell (But.refl _ _) (by simp) _
 have hne: ∀k,k≠ .B-> ∀b',kv vA vB vC ps k=some b'->b'∉ [b]:=fun k hkb b' hb hm=>by
  have:=List.mem_singleton.1 hm;subst this;exact hkb (h.apart _ _ _ hb hk)
 refine⟨zo h.nodes hB (hne .A (by simp)),?_,zo h.roots hB (hne .C (by simp)),fun j p x hp hx=>⟨zo (h.each j p x hp hx).1 hB (fun b' hb=>hne (.R j) (by simp) b' (by simp only[kv,hp,Option.bind_some,hb])),zo (h.each j p x hp hx).2 hB (fun b' hb=>hne (.D j) (by simp) b' (by simp only[kv,hp,Option.bind_some,hb]))⟩,h.apart,h.off⟩;have hu:=h.used;obtain⟨A,a,hs⟩:=own_slice hu;rw[hs]at hv;injection hv with hv1 hv2 hv3;subst hv1 hv2 hv3;subst hs;show World.ownsRow _ base 4 1 _ (g.us.set i u).length (vb (g.us.set i u));rw[List.length_set,znr];exact yv hu i _
theorem GOwn.setC{b n c:Nat}(h:GOwn w base o vA vB vC ps g)(hv:vC= .slice (some ⟨b,0,none⟩) n c)(i:Nat)(u:Int):GOwn (w.setCell ⟨b,i,none⟩ (.int .i64 u)) base o vA vB vC ps {g with rs:=g.rs.set i u}:=by
 have hk:kv vA vB vC ps .C=some b:=by rw[hv];rfl
 have hB:But [b] w (w.setCell ⟨b,i,none⟩ (.int .i64 u)):=But.setCell (But.refl _ _) (by simp) _
 have hne: ∀k,k≠ .C-> ∀b',kv vA vB vC ps k=some b'->b'∉ [b]:=fun k hkb b' hb hm=>by
  have:=List.mem_singleton.1 hm;subst this;exact hkb (h.apart _ _ _ hb hk)
 refine⟨zo h.nodes hB (hne .A (by simp)),zo h.used hB (hne .B (by simp)),?_,fun j p x hp hx=>⟨zo (h.each j p x hp hx).1 hB (fun b' hb=>hne (.R j) (by simp) b' (by simp only[kv,hp,Option.bind_some,hb])),zo (h.each j p x hp hx).2 hB (fun b' hb=>hne (.D j) (by simp) b' (by simp only[kv,hp,Option.bind_some,hb]))⟩,h.apart,h.off⟩;have hu:=h.roots;obtain⟨A,a,hs⟩:=own_slice hu;rw[hs]at hv;injection hv with hv1 hv2 hv3;subst hv1 hv2 hv3;subst hs;show World.ownsRow _ base 3 1 _ (g.rs.set i u).length (yb (g.rs.set i u));rw[List.length_set,zgi];exact yv hu i _
theorem GOwn.setR{b n c m:Nat}{p:Value×Value}{x:List Int×List Int}(h:GOwn w base o vA vB vC ps g)(hp:ps[m]? =some p)(hx:g.ns[m]? =some x)(hv:p.1= .slice (some ⟨b,0,none⟩) n c)(i:Nat)(u:Int):
 GOwn (w.setCell ⟨b,i,none⟩ (.int .i64 u)) base o vA vB vC ps {g with ns:=g.ns.set m (x.1.set i u,x.2)}:=by
 have hk:kv vA vB vC ps (.R m)=some b:=by simp only[kv,hp,Option.bind_some];rw[hv];rfl
 have hB:But [b] w (w.setCell ⟨b,i,none⟩ (.int .i64 u)):=But.setCell (But.refl _ _) (by simp) _
 have hne: ∀k,k≠ .R m-> ∀b',kv vA vB vC ps k=some b'->b'∉ [b]:=fun k hkb b' hb hm=>by
  have:=List.mem_singleton.1 hm;subst this;exact hkb (h.apart _ _ _ hb hk)
 refine⟨?_,zo h.used hB (hne .B (by simp)),zo h.roots hB (hne .C (by simp)),?_,h.apart,h.off⟩
 ·show World.ownsRow _ base 106 2 _ (g.ns.set m _).length _
  rw[List.length_set];exact zo h.nodes hB (hne .A (by simp))
 ·intro j q y hq hy
  by_cases hj:j=m
  ·subst hj
   rw[hp]at hq;injection hq with hq;subst hq;have hl:=(List.getElem?_eq_some_iff.1 hx).1;simp only[List.getElem?_set_self hl,Option.some.injEq]at hy;subst hy;obtain⟨h1,h2⟩:=h.each j p x hp hx;refine⟨?_,zo h2 hB (fun b' hb=>hne (.D j) (by simp) b' (by simp only[kv,hp,Option.bind_some,hb]))⟩;obtain⟨p1,p2⟩:=p;obtain⟨A,a,hs⟩:=own_slice h1;simp only at hs hv h1|-;rw[hs]at hv;injection hv with hv1 hv2 hv3;subst hv1 hv2 hv3;subst hs;rw[List.length_set,zgi];exact yv h1 i _
  ·simp only[List.getElem?_set_ne (Ne.symm hj)]at hy
   obtain⟨h1,h2⟩:=h.each j q y hq hy;exact⟨zo h1 hB (fun b' hb=>hne (.R j) (by simp[hj]) b' (by simp only[kv,hq,Option.bind_some,hb])),zo h2 hB (fun b' hb=>hne (.D j) (by simp) b' (by simp only[kv,hq,Option.bind_some,hb]))⟩
theorem GOwn.setD{b n c m:Nat}{p:Value×Value}{x:List Int×List Int}(h:GOwn w base o vA vB vC ps g)(hp:ps[m]? =some p)(hx:g.ns[m]? =some x)(hv:p.2= .slice (some ⟨b,0,none⟩) n c)(i:Nat)(u:Int):
 GOwn (w.setCell ⟨b,i,none⟩ (.int .u64 u)) base o vA vB vC ps {g with ns:=g.ns.set m (x.1,x.2.set i u)}:=by
 have hk:kv vA vB vC ps (.D m)=some b:=by simp only[kv,hp,Option.bind_some];rw[hv];rfl
 have hB:But [b] w (w.setCell ⟨b,i,none⟩ (.int .u64 u)):=But.setCell (But.refl _ _) (by simp) _
 have hne: ∀k,k≠ .D m-> ∀b',kv vA vB vC ps k=some b'->b'∉ [b]:=fun k hkb b' hb hm=>by
  have:=List.mem_singleton.1 hm;subst this;exact hkb (h.apart _ _ _ hb hk)
 refine⟨?_,zo h.used hB (hne .B (by simp)),zo h.roots hB (hne .C (by simp)),?_,h.apart,h.off⟩
 ·show World.ownsRow _ base 106 2 _ (g.ns.set m _).length _
  rw[List.length_set];exact zo h.nodes hB (hne .A (by simp))
 ·intro j q y hq hy
  by_cases hj:j=m
  ·subst hj
   rw[hp]at hq;injection hq with hq;subst hq;have hl:=(List.getElem?_eq_some_iff.1 hx).1;simp only[List.getElem?_set_self hl,Option.some.injEq]at hy;subst hy;obtain⟨h1,h2⟩:=h.each j p x hp hx;refine⟨zo h1 hB (fun b' hb=>hne (.R j) (by simp) b' (by simp only[kv,hp,Option.bind_some,hb])),?_⟩;obtain⟨p1,p2⟩:=p;obtain⟨A,a,hs⟩:=own_slice h2;simp only at hs hv h2|-;rw[hs]at hv;injection hv with hv1 hv2 hv3;subst hv1 hv2 hv3;subst hs;rw[List.length_set,zac];exact yv h2 i _
  ·simp only[List.getElem?_set_ne (Ne.symm hj)]at hy
   obtain⟨h1,h2⟩:=h.each j q y hq hy;exact⟨zo h1 hB (fun b' hb=>hne (.R j) (by simp) b' (by simp only[kv,hq,Option.bind_some,hb])),zo h2 hB (fun b' hb=>hne (.D j) (by simp[hj]) b' (by simp only[kv,hq,Option.bind_some,hb]))⟩
end
theorem zL{w w':World}{r:Option Nat}(h:w.grownBy w' r):But r.toList w w':=
 ⟨h.os,h.tape,h.output,h.size,fun k hk hn=>h.block k hk (fun e=>hn (by rw[<-e];simp))⟩
section
variable{w w':World} {base o:Nat} {vA vB vC vA':Value} {ps:List (Value×Value)} {g:Gr} {p:Value×Value} {x:List Int×List Int}
theorem zea(hat:vA'.ownBlock=vA.ownBlock∨vA'.ownBlock=some w.heap.size): ∀k b,kv vA' vB vC (ps++ [p]) k=some b->
 (k= .A∧(kv vA vB vC ps .A=some b∨b=w.heap.size))∨(k= .R ps.length∧p.1.ownBlock=some b)∨(k= .D ps.length∧p.2.ownBlock=some b)∨(k≠ .A∧kv vA vB vC ps k=some b)
 | .A,b,h=>by
   refine Or.inl ⟨rfl,?_⟩;simp only[kv]at h|-;rcases hat with e|e
   ·left;rw[<-e];exact h
   ·right;rw[e]at h;injection h with h;exact h.symm
 | .B,b,h=>Or.inr (Or.inr (Or.inr ⟨by simp,h⟩))
 | .C,b,h=>Or.inr (Or.inr (Or.inr ⟨by simp,h⟩))
 | .R i,b,h=>by
   simp only[kv,Option.bind_eq_some_iff]at h;obtain⟨q,hq,hb⟩:=h;by_cases hi:i<ps.length
   ·rw[List.getElem?_append_left hi]at hq
    exact Or.inr (Or.inr (Or.inr ⟨by simp,by simp only[kv,hq,Option.bind_some,hb]⟩))
   ·have hl:=(List.getElem?_eq_some_iff.1 hq).1
    simp only[List.length_append,List.length_singleton]at hl;have:i=ps.length:=by omega
    subst this;simp at hq;subst hq;exact Or.inr (Or.inl ⟨rfl,hb⟩)
 | .D i,b,h=>by
   simp only[kv,Option.bind_eq_some_iff]at h;obtain⟨q,hq,hb⟩:=h;by_cases hi:i<ps.length
   ·rw[List.getElem?_append_left hi]at hq
    exact Or.inr (Or.inr (Or.inr ⟨by simp,by simp only[kv,hq,Option.bind_some,hb]⟩))
   ·have hl:=(List.getElem?_eq_some_iff.1 hq).1
    simp only[List.length_append,List.length_singleton]at hl;have:i=ps.length:=by omega
    subst this;simp at hq;subst hq;exact Or.inr (Or.inr (Or.inl ⟨rfl,hb⟩))
theorem GOwn.push(h:GOwn w base o vA vB vC ps g)(h1:w.ownsRow base 3 1 p.1 x.1.length (yb x.1))(h2:w.ownsRow base 67 1 p.2 x.2.length (words x.2))
 (f1: ∀b,p.1.ownBlock=some b->b≠o∧∀k,kv vA vB vC ps k≠some b) (f2: ∀b,p.2.ownBlock=some b->b≠o∧(∀k,kv vA vB vC ps k≠some b)∧p.1.ownBlock≠some b)
 (ha:w'.ownsRow base 106 2 vA' (g.ns.length+1) (zal ps++ [p.1,p.2])) (hg:w.grownBy w' vA.ownBlock) (hat:vA'.ownBlock=vA.ownBlock∨vA'.ownBlock=some w.heap.size) (ho:o<w.heap.size):
 GOwn w' base o vA' vB vC (ps++ [p]) {g with ns:=g.ns++ [x]}:=by
 have hB:=zL hg;have hlen:=h.len
 have hne: ∀k,k≠ .A-> ∀b,kv vA vB vC ps k=some b->b∉vA.ownBlock.toList:=fun k hk b hb hm=>by
  have:vA.ownBlock=some b:=by simpa using hm
  exact hk (h.apart _ _ _ hb this)
 have hnp: ∀b,(∀k,kv vA vB vC ps k≠some b) ->b∉vA.ownBlock.toList:=fun b hb hm=>by
  have:vA.ownBlock=some b:=by simpa using hm
  exact hb .A this
 refine⟨?_,zo h.used hB (hne .B (by simp)),zo h.roots hB (hne .C (by simp)),?_,?_,?_⟩
 ·rw[zax];simpa using ha
 ·intro i q y hq hy
  by_cases hi:i<ps.length
  ·rw[List.getElem?_append_left hi]at hq
   simp only[List.getElem?_append_left (show i<g.ns.length by omega)]at hy;obtain⟨k1,k2⟩:=h.each i q y hq hy;exact⟨zo k1 hB (fun b hb=>hne (.R i) (by simp) b (by simp only[kv,hq,Option.bind_some,hb])),zo k2 hB (fun b hb=>hne (.D i) (by simp) b (by simp only[kv,hq,Option.bind_some,hb]))⟩
  ·have hl:=(List.getElem?_eq_some_iff.1 hq).1
   simp only[List.length_append,List.length_singleton]at hl;have:i=ps.length:=by omega
   subst this;simp at hq;subst hq;simp[hlen]at hy;subst hy;exact⟨zo h1 hB (fun b hb=>hnp b (f1 b hb).2),zo h2 hB (fun b hb=>hnp b (f2 b hb).2.1)⟩
 ·intro k k' b hk hk'
  have hltA: ∀k b,kv vA vB vC ps k=some b->b≠w.heap.size:=fun k b hb=>by have:=(h.lt k b hb).2;omega
  have hlt1: ∀b,p.1.ownBlock=some b->b≠w.heap.size:=fun b hb=>by have:=(World.ownsRow.lt h1 b hb).2;omega
  have hlt2: ∀b,p.2.ownBlock=some b->b≠w.heap.size:=fun b hb=>by have:=(World.ownsRow.lt h2 b hb).2;omega
  rcases zea hat k b hk with⟨rfl,c⟩|⟨rfl,c⟩|⟨rfl,c⟩|⟨n,c⟩<;>rcases zea hat k' b hk' with⟨rfl,d⟩|⟨rfl,d⟩|⟨rfl,d⟩|⟨m,d⟩
  ·rfl
  ·rcases c with c|c
   ·exact absurd c ((f1 b d).2 .A)
   ·exact absurd c (hlt1 b d)
  ·rcases c with c|c
   ·exact absurd c ((f2 b d).2.1 .A)
   ·exact absurd c (hlt2 b d)
  ·rcases c with c|c
   ·exact h.apart _ _ _ c d
   ·exact absurd c (hltA _ _ d)
  ·rcases d with d|d
   ·exact absurd d ((f1 b c).2 .A)
   ·exact absurd d (hlt1 b c)
  ·rfl
  ·exact absurd c (f2 b d).2.2
  ·exact absurd d ((f1 b c).2 _)
  ·rcases d with d|d
   ·exact absurd d ((f2 b c).2.1 .A)
   ·exact absurd d (hlt2 b c)
  ·exact absurd d (f2 b c).2.2
  ·rfl
  ·exact absurd d ((f2 b c).2.1 _)
  ·rcases d with d|d
   ·exact h.apart _ _ _ c d
   ·exact absurd d (hltA _ _ c)
  ·exact absurd c ((f1 b d).2 _)
  ·exact absurd c ((f2 b d).2.1 _)
  ·exact h.apart _ _ _ c d
 ·intro k hk
  rcases zea hat k o hk with⟨rfl,c⟩|⟨rfl,c⟩|⟨rfl,c⟩|⟨n,c⟩
  ·rcases c with c|c
   ·exact h.off _ c
   ·omega
  ·exact(f1 o c).1 rfl
  ·exact(f2 o c).1 rfl
  ·exact h.off _ c
end
theorem znt{w:World}{base o:Nat}{vB vC:Value}{us:List Bool}{rs:List Int}(hB:w.ownsRow base 4 1 vB us.length (vb us))(hC:w.ownsRow base 3 1 vC rs.length (yb rs))(oB:vB.ownBlock≠some o)(oC:vC.ownBlock≠some o):
 GOwn w base o (.slice none 0 0) vB vC [] ⟨[],us,rs⟩:=by
 have hne: ∀b,vB.ownBlock=some b->vC.ownBlock≠some b:=fun b h1 h2=>by
  obtain⟨A,a,rfl⟩:=own_slice hB;obtain⟨C,c,rfl⟩:=own_slice hC;rcases hB.2 with⟨h0,_⟩|⟨q,cap,cur,hv,_,hg,_⟩
  ·injection h0 with h0;subst h0;simp[Value.ownBlock]at h1
  ·rcases hC.2 with⟨h0,_⟩|⟨q',cap',cur',hv',_,hg',_⟩
   ·injection h0 with h0;subst h0;simp[Value.ownBlock]at h2
   ·injection hv with hv;injection hv' with hv'
    subst hv hv';simp only[Value.ownBlock,Option.some.injEq]at h1 h2;subst h1;subst h2;rw[hg]at hg';injection hg' with hg';injection hg' with _ ht;exact absurd ht (by decide)
 refine⟨zP _ _ _ _,hB,hC,fun i p x hp _=>by simp at hp,?_,?_⟩
 ·intro k k' b hk hk'
  cases k<;>cases k'<;>simp[kv,Value.ownBlock]at hk hk'|-
  ·exact hne b hk hk'
  ·exact hne b hk' hk
 ·intro k hk
  cases k<;>simp[kv,Value.ownBlock]at hk
  ·exact oB hk
  ·exact oC hk
def Bd(g:Gr):Prop:=g.ns.length<=1000∧g.us.length<=1000∧g.rs.length<=1000∧∀(i:Nat) (x:List Int×List Int),g.ns[i]? =some x->x.1.length<=3000∧x.2.length<=3000
theorem zb7{N:Nat}{S:List Nat}{w w':World}{A:Option Addr}{n size:Nat}{xs:List Value}(h:Rd w A n size xs)(he:Bel N S w w')(hN:N=w.heap.size)(hS:S= []):Rd w' A n size xs:=by
 subst hN hS;exact h.ext ⟨he.os,he.tape,he.output,he.size,fun k hk=>he.block (Nat.le_refl _) k hk (by simp)⟩
def zr9(w:World)(g:Gr)(r:Ending)(w':World):Prop:= ∃vA vB vC ps,r= .returned (.agg #[vA,vB,vC])∧GOwn w' w.heap.size w.heap.size vA vB vC ps g∧Ext w w'
theorem zgj{W w1 w2 wx:World}{o:Nat}{us:List Bool}{rs:List Int}{vB vC:Value}{b1 b2:Nat}(hB:w1.ownsRow b1 4 1 vB us.length (vb us))(hC:w2.ownsRow b2 3 1 vC rs.length (yb rs))(e1:But [o] w1 wx)(e2:But [o] w2 wx)
 (h1:W.heap.size<=b1) (h2:W.heap.size<=b2) (oB:o<b1∨w1.heap.size<=o) (oC:o<b2∨w2.heap.size<=o):
 GOwn wx W.heap.size o (.slice none 0 0) vB vC [] ⟨[],us,rs⟩:=by
 have nB:vB.ownBlock≠some o:=fun e=>by have:=World.ownsRow.lt hB _ e;omega
 have nC:vC.ownBlock≠some o:=fun e=>by have:=World.ownsRow.lt hC _ e;omega
 exact znt (zu (zo hB e1 (fun q hq hm=>nB (by rw[hq,List.mem_singleton.1 hm]))) h1) (zu (zo hC e2 (fun q hq hm=>nC (by rw[hq,List.mem_singleton.1 hm]))) h2) nB nC
theorem qv{N:Nat}{S:List Nat}{w:World}{ob:Obj}{o:Nat}{t:TypeId}{cs:Array Value}(_:Bel N S w (w.alloc ob))(k:Blk w o t cs):Blk (w.alloc ob) o t cs:=k.alloc _
theorem zdk{w1 w2:World}{b1 b2 size size' n n':Nat}{e e':TypeId}{v v':Value}{xs xs':List Value}(h:w1.ownsRow b1 e size v n xs)(h':w2.ownsRow b2 e' size' v' n' xs')(he:Ext w1 w2)(hne:e≠e')(b:Nat)(hb:v.ownBlock=some b):v'.ownBlock≠some b:=fun hb'=>by
 rcases h.2 with⟨h0,_⟩|⟨q,cap,cur,hv,_,hg,_⟩
 ·subst h0;simp[Value.ownBlock]at hb
 ·rcases h'.2 with⟨h0,_⟩|⟨q',cap',cur',hv',_,hg',_⟩
  ·subst h0;simp[Value.ownBlock]at hb'
  ·subst hv hv'
   simp only[Value.ownBlock,Option.some.injEq]at hb hb';subst hb;subst hb';have hlt:=Array.getElem?_eq_some_iff.1 hg;rw[he.block _ hlt.1,hg]at hg';injection hg' with hg';injection hg' with _ ht;exact hne ht
theorem zgk{wr w1 w2 w3 w4:World}{base o b1 b2 n:Nat}{vA vB vC vA' vR vD:Value}{ps:List (Value×Value)}{ns:List (List Int×List Int)}{us:List Bool}{rs:List Int}{x:List Int×List Int}
 (hG:GOwn wr base o vA vB vC ps ⟨ns,us,rs⟩) (kO:Blk wr o 41 #[vA,vB,vC]) (e3:Ext wr w3) (r1:w1.ownsRow b1 3 1 vR x.1.length (yb x.1)) (r2:w2.ownsRow b2 67 1 vD x.2.length (words x.2)) (e1:Ext w1 w2) (e2:Ext w2 w3)
 (hb1:wr.heap.size<=b1) (hb2:wr.heap.size<=b2) (hbase:base<=wr.heap.size) (hn:n=ns.length+1) (ha:w4.ownsRow base 106 2 vA' n (zal ps++ [vR,vD])) (hg:w3.grownBy w4 vA.ownBlock) (hat:vA'.ownBlock=vA.ownBlock∨vA'.ownBlock=some w3.heap.size):
 Blk (w4.setCell ⟨o,0,none⟩ vA') o 41 #[vA',vB,vC]∧GOwn (w4.setCell ⟨o,0,none⟩ vA') base o vA' vB vC (ps++ [(vR,vD)]) ⟨ns++ [x],us,rs⟩:=by
 subst hn;have hol:=kO.lt;have hol3:o<w3.heap.size:=Nat.lt_of_lt_of_le hol e3.size_le;have s1:=World.ownsRow.lt r1;have s2:=World.ownsRow.lt r2
 have hG4:=GOwn.push (p:=(vR,vD)) (x:=x) (hG.ext e3) (zu (zm r1 (e1.trans e2)) (by omega)) (zu (zm r2 e2) (by omega))
  (fun b hb=>⟨by have:=s1 b hb;omega,fun k hk=>by have:=(hG.lt k b hk).2;have:=s1 b hb;omega⟩)
  (fun b hb=>⟨by have:=s2 b hb;omega,fun k hk=>by have:=(hG.lt k b hk).2;have:=s2 b hb;omega,fun h=>zdk r1 r2 e1 (by decide) b h hb⟩)
  (by simpa using ha) hg hat hol3
 have kO4:Blk w4 o 41 #[vA,vB,vC]:=(kO.ext e3).but (zL hg) (fun hm=>hG.off .A (by simpa[kv]using hm));exact⟨by simpa using kO4.set_ 0 vA',hG4.far (fun k hk=>hG4.off k hk) vA'⟩
theorem ym(v:Value)(g:Gr)(w:World)(hg:GRd w v g)(hb:Bd g):Calls Tryz.prog 43 #[v] w (zr9 w g):=by
 obtain⟨A,a,B,b,C,c,ps,rfl,h1,h2,h3,h4⟩:=hg;have b1:=hb.2.1;have b2:=hb.2.2.1;have b3:=hb.1;have Hb:=Lib.hid hb.2.2.2;clear hb;go_enter Tryz.func43,Tryz.ntmps43;go_upto_region 1 with fail;have hX:=Ext.alloc (Ext.alloc (Ext.refl w) (.cells #[.slice A g.ns.length a,.slice B g.us.length b,.slice C g.rs.length c] 41)) (.cells #[.slice none 0 0,.slice none 0 0,.slice none 0 0] 41);have k1:Blk ((w.alloc (.cells #[.slice A g.ns.length a,.slice B g.us.length b,.slice C g.rs.length c] 41)).alloc (.cells #[.slice none 0 0,.slice none 0 0,.slice none 0 0] 41)) w.heap.size 41 #[.slice A g.ns.length a,.slice B g.us.length b,.slice C g.rs.length c]:=Blk.alloc (Blk.new rfl) _;have k2:Blk ((w.alloc (.cells #[.slice A g.ns.length a,.slice B g.us.length b,.slice C g.rs.length c] 41)).alloc (.cells #[.slice none 0 0,.slice none 0 0,.slice none 0 0] 41)) (w.heap.size+1) 41 #[.slice none 0 0,.slice none 0 0,.slice none 0 0]:=Blk.new (by simp);generalize hW:(w.alloc (.cells #[.slice A g.ns.length a,.slice B g.us.length b,.slice C g.rs.length c] 41)).alloc (.cells #[.slice none 0 0,.slice none 0 0,.slice none 0 0] 41)=W at hX k1 k2|-;have hsz:w.heap.size+2<=W.heap.size:=by rw[<-hW];simp
 clear hW;replace h1:=h1.ext hX;replace h2:=h2.ext hX;replace h3:=h3.ext hX;have m1:=k1.cell;have l1:=k1.lt;go_cut [3] (fun t wx=> ∃o vB vC,t= .pointer (some ⟨o,0,none⟩)∧Blk wx o 41 #[.slice none 0 0,vB,vC]∧GOwn wx W.heap.size o (.slice none 0 0) vB vC [] ⟨[],g.us,g.rs⟩∧Ext W wx∧W.heap.size<=o)
 case first=>
  refine zn (W.heap.size) [] (.take 0 (.take 1 (.take 3 (.take 4 (.alt 2 (.alt 5 (.take 6 (.alt 7 (.alt 8 .done .none) .none)) (.alt 7 (.alt 5 (.take 6 (.alt 8 .done .none)) .none) .none)) (.alt 7 (.alt 2 (.alt 5 (.take 6 (.alt 8 .done .none)) .none) .none) .none)))))) Tryz.mixed (by kernel_rfl) ?_;intro hx;iterate 4 (first|refine jTN hx ?_|refine jTS ?_)
  refine jCN hx (fun K hK=> ?_) ?_;refine yL Tryz.el24 _ _ rfl rfl _ B _ b (vb g.us) rfl (zb7 h2 (zY hx) rfl rfl) (zns g.us) (by omega) (by omega) (Nat.le_refl _) ?_;intro B' b' w1 hB' hE1;have hz1:=hE1.size_le;(try simp at hz1);try(replace hk5:=hk5.ext hE1)
  refine hK _ _ (((hE1.but _)).bel _) ?_;clear hK hx;intro hx;refine jp ?_;refine jCN hx (fun K hK=> ?_) ?_;refine yL Tryz.el22 _ _ rfl rfl _ C _ c (yb g.rs) rfl (zb7 h3 (zY hx) rfl rfl) (xj g.rs) (by omega) (by omega) (Nat.le_refl _) ?_;intro C' c' w2 hC' hE2;have hz2:=hE2.size_le;(try simp at hz2);try(replace hk5:=hk5.ext hE2)
  refine hK _ _ (((hE2.but _)).bel _) ?_;clear hK hx;intro hx;refine jp ?_;first|refine jTN hx ?_|refine jTS ?_
  refine jTC (fun K hK=> ?_);go_simp;first|refine hK _ _ jN ?_|refine hK undef _ jN ?_
  clear hK;intro hr;(try have hk5:=zI hr);(try have hk5:=zE hr);replace hx:=hx.trans hr;clear hr;refine jp ?_;refine yl hx (fun K hK=> ?_);try(have hc5:=hk5.cell;have hf5:=hk5.froz)
  go_simp;refine hK _ jN ?_;clear hK hx;intro hx;refine zi ?_;rotate_left;refine jTC (fun K hK=> ?_);go_simp;first|refine hK _ _ jN ?_|refine hK undef _ jN ?_
  clear hK;intro hr;(try have hk5:=zI hr);(try have hk5:=zE hr);replace hx:=hx.trans hr;clear hr;refine jp ?_;refine jCN hx (fun K hK=> ?_);refine yL Tryz.el22 _ _ rfl rfl _ C _ c (yb g.rs) rfl (zb7 h3 (zY hx) rfl rfl) (xj g.rs) (by omega) (by omega) (Nat.le_refl _) ?_;intro C' c' w2 hC' hE2;have hz2:=hE2.size_le;(try simp at hz2);try(replace hk5:=hk5.ext hE2)
  refine hK _ _ (((hE2.but _)).bel _) ?_;clear hK hx;intro hx;refine jp ?_;first|refine jTN hx ?_|refine jTS ?_
  refine yl hx (fun K hK=> ?_);try(have hc5:=hk5.cell;have hf5:=hk5.froz)
  go_simp;refine hK _ jN ?_;clear hK hx;intro hx;refine zi ?_;rotate_left;refine jTC (fun K hK=> ?_);go_simp;first|refine hK _ _ jN ?_|refine hK undef _ jN ?_
  clear hK;intro hr;(try have hk5:=zI hr);(try have hk5:=zE hr);replace hx:=hx.trans hr;clear hr;refine jp ?_;refine jCN hx (fun K hK=> ?_);refine yL Tryz.el24 _ _ rfl rfl _ B _ b (vb g.us) rfl (zb7 h2 (zY hx) rfl rfl) (zns g.us) (by omega) (by omega) (Nat.le_refl _) ?_;intro B' b' w1 hB' hE1;have hz1:=hE1.size_le;(try simp at hz1);try(replace hk5:=hk5.ext hE1)
  refine hK _ _ (((hE1.but _)).bel _) ?_;clear hK hx;intro hx;refine jp ?_;refine jCN hx (fun K hK=> ?_);refine yL Tryz.el22 _ _ rfl rfl _ C _ c (yb g.rs) rfl (zb7 h3 (zY hx) rfl rfl) (xj g.rs) (by omega) (by omega) (Nat.le_refl _) ?_;intro C' c' w2 hC' hE2;have hz2:=hE2.size_le;(try simp at hz2);try(replace hk5:=hk5.ext hE2)
  refine hK _ _ (((hE2.but _)).bel _) ?_;clear hK hx;intro hx;refine jp ?_;first|refine jTN hx ?_|refine jTS ?_
  refine yl hx (fun K hK=> ?_);try(have hc5:=hk5.cell;have hf5:=hk5.froz)
  go_simp;refine hK _ jN ?_;clear hK hx;intro hx;refine zi ?_;rotate_left
  all_goals
   go_wp2;go_meet;refine⟨_,_,_,rfl,?_,zgj hB' hC' (((Ext.trans jX hE2).but _).trans jB) jB (by(first|omega|(simp;done)|(simp;omega))) (by(first|omega|(simp;done)|(simp;omega))) (by(first|omega|(simp;done)|(simp;omega))) (by(first|omega|(simp;done)|(simp;omega))),zV hx,by(first|omega|(simp;done)|(simp;omega))⟩
   first
    |exact Blk.new rfl
    |exact((hk5.set_ 0 _).set_ 1 _).set_ 2 _
 case rest=>
  obtain⟨o,vB,vC,rfl,kO,hG,hEW,hoW⟩:=hcut;obtain⟨B1,b1',rfl⟩:=own_slice hG.used;obtain⟨C1,c1',rfl⟩:=own_slice hG.roots;have lO:=kO.lt;have cO:=kO.cell;have k1':=k1.ext hEW;have m1':=k1'.cell;have l1':=k1'.lt;clear m1;go_wp2_with fail;go_loopw [16] (fun i wr=> ∃(k:Nat) (vA:Value) (qs:List (Value×Value)),k<=g.ns.length∧i= .int .i64 k∧Blk wr o 41 #[vA,.slice B1 g.us.length b1',.slice C1 g.rs.length c1']∧GOwn wr W.heap.size o vA (.slice B1 g.us.length b1') (.slice C1 g.rs.length c1') qs ⟨g.ns.take k,g.us,g.rs⟩∧Ext W wr) (fun i _=>g.ns.length-(intOf i).toNat);case atStart=>exact⟨0,_,_,by omega,rfl,kO,hG,hEW⟩
  case round=>
   clear kO hG hEW lO cO k1' m1' l1';obtain⟨k,vA,qs,hk,rfl,kO,hG,hEW⟩:=hrel;have cO:=kO.cell;have fO:=kO.froz;have lO:=kO.lt;by_cases hlt:k<g.ns.length
   ·have hdec:decide ((k:Int)<g.ns.length)=true:=by simp;omega
    have hdec':decide (k<g.ns.length)=true:=by simp;omega
    have hkb:(k:Int)<g.ns.length:=by omega
    obtain⟨x,hx0⟩: ∃x,g.ns[k]? =some x:=⟨_,List.getElem?_eq_getElem hlt⟩;have hpl:ps.length=g.ns.length:=by have:=h1.1;rw[kH]at this;omega
    obtain⟨p,hp0⟩: ∃p,ps[k]? =some p:=⟨_,List.getElem?_eq_getElem (by omega)⟩;obtain⟨R,c1,D,c2,rfl,hR,hD⟩:=h4 k p x hp0 hx0;obtain⟨ba,oa,rfl,hca⟩:=(h1.ext hEW).2 (by omega);have q0:=hca _ _ (vt ps k _ hp0).1;have q1:=hca _ _ (vt ps k _ hp0).2;rw[<-Nat.add_assoc]at q1;simp only at q0 q1;have lq:=zh q0;obtain⟨x1,x2⟩:=Hb.out k x hx0;have hR':=hR.ext (hX.trans hEW);have hD':=hD.ext (hX.trans hEW);clear hca hp0 hR hD h1;have Hx0:=Lib.hid hx0;have Hl:=Lib.hid hpl;clear hx0 hpl;have hN:=hG.nodes;simp only[List.length_take,Nat.min_eq_left hk]at hN;obtain⟨A1,a1,rfl⟩:=own_slice hN;go_upto_region 5 with fail;have hX5:=Ext.alloc (Ext.refl wr) (.cells #[.slice R x.1.length c1,.slice D x.2.length c2] 106);have k5:Blk (wr.alloc (.cells #[.slice R x.1.length c1,.slice D x.2.length c2] 106)) wr.heap.size 106 #[.slice R x.1.length c1,.slice D x.2.length c2]:=Blk.new rfl;generalize hW5:wr.alloc (.cells #[.slice R x.1.length c1,.slice D x.2.length c2] 106)=W5 at hX5 k5|-;clear hW5;have m5:=k5.cell;have l5:=k5.lt;have hR5:=hR'.ext hX5;have hD5:=hD'.ext hX5;have hN5:=zm hN hX5;have kOw:Blk W5.drew o 41 #[.slice A1 k a1,.slice B1 g.us.length b1',.slice C1 g.rs.length c1']:=(kO.ext hX5).drew;obtain⟨S,hS⟩: ∃S:List Nat,S=o::(Value.slice A1 k a1).ownBlock.toList:=⟨_,rfl⟩;have hoS:o∈S:=by rw[hS];simp
    have hAS: ∀q∈(Value.slice A1 k a1).ownBlock.toList,q∈S:=fun q hq=>by rw[hS];exact List.mem_cons_of_mem _ hq
    have hoA:o∉(Value.slice A1 k a1).ownBlock.toList:=fun hm=>hG.off .A (by simpa[kv]using hm)
    have hSW: ∀q∈S,W.heap.size<=q∧q<wr.heap.size:=fun q hq=>by
     rw[hS,List.mem_cons]at hq;rcases hq with rfl|hq
     ·exact⟨hoW,lO⟩
     ·exact hG.lt .A q (by simpa[kv]using hq)
    have hnS:wr.heap.size∉S:=fun hm=>by have:=(hSW _ hm).2;omega
    have hEs:=hEW.size_le;have hz5:=hX5.size_le;clear hS hR' hD' cO fO k5 q0 q1;refine zn (W5.heap.size) S (.take 0 (.take 2 (.take 3 (.take 5 (.take 6 (.alt 1 (.alt 4 (.alt 7 (.take 8 (.alt 9 (.alt 10 (.take 11 (.alt 12 .done .none)) .none) .none)) .none) .none) (.alt 4 (.alt 1 (.alt 7 (.take 8 (.alt 9 (.alt 10 (.take 11 (.alt 12 .done .none)) .none) .none)) .none) (.alt 7 (.take 8 (.alt 1 (.alt 9 (.alt 10 (.take 11 (.alt 12 .done .none)) .none) .none) (.alt 9 (.alt 1 (.alt 10 (.take 11 (.alt 12 .done .none)) .none) .none) .none))) .none)) .none))))))) Tryz.mixed (by kernel_rfl) ?_;intro hx;iterate 5 (first|refine jTN hx ?_|refine jTS ?_)
    refine jCN hx (fun K hK=> ?_) ?_;have cOw:=kOw.cell;go_simp;first|refine hK _ _ jN ?_|refine hK undef _ jN ?_
    clear hK hx;intro hx;refine jp ?_;refine jCN hx (fun K hK=> ?_);refine yL Tryz.el22 _ _ rfl rfl _ R _ c1 (yb x.1) rfl (hR5.ext jX) (xj x.1) (by omega) (by omega) (Nat.le_refl _) ?_;intro R' c1' w1 hR1 hE1;have hz1:=hE1.size_le;(try simp at hz1);replace kOw:=kOw.ext hE1;refine hK _ _ (((hE1.but _)).bel _) ?_;clear hK hx;intro hx;refine jp ?_;refine jCN hx (fun K hK=> ?_);refine yL Tryz.el47 _ _ rfl rfl _ D _ c2 (words x.2) rfl (hD5.ext jX) (v5 x.2) (by omega) (by omega) (Nat.le_refl _) ?_;intro D' c2' w2 hD2 hE2;have hz2:=hE2.size_le;(try simp at hz2);replace kOw:=kOw.ext hE2;refine hK _ _ (((hE2.but _)).bel _) ?_;clear hK hx;intro hx;refine jp ?_;first|refine jTN hx ?_|refine jTS ?_
    refine jTC (fun K hK=> ?_);go_simp;first|refine hK _ _ jN ?_|refine hK undef _ jN ?_
    clear hK;intro hr;replace kOw:=qv hr kOw;replace hx:=hx.trans hr;clear hr;refine jp ?_;refine jCN hx (fun K hK=> ?_);refine zX Tryz.el23 _ _ rfl W.heap.size _ _ _ rfl (zm hN5 jX) _ 1 1 _ rfl (yF _ [_,_] 106 1 2 rfl) (by simp[Value.oneCell']) (by omega) (by omega) (by(first|omega|(simp;done)|(simp;omega))) ?_;intro A2 c3 w3 hN3 hg3 hat3;replace kOw:=kOw.but (zL hg3) hoA;refine hK _ _ (((But.more (zL hg3) hAS).bel _)) ?_;clear hK hx;intro hx;refine jp ?_;first|refine jTN hx ?_|refine jTS ?_
    refine yl hx (fun K hK=> ?_);have cOw:=kOw.cell;have fOw:=kOw.froz;go_simp;refine hK _ ((Bel.setIn (p:=⟨o,0,none⟩) (Bel.refl _ _ _) hoS _)) ?_;clear hK hx;intro hx;refine zi ?_;rotate_left;refine jCN hx (fun K hK=> ?_);refine yL Tryz.el22 _ _ rfl rfl _ R _ c1 (yb x.1) rfl (hR5.ext jX) (xj x.1) (by omega) (by omega) (Nat.le_refl _) ?_;intro R' c1' w1 hR1 hE1;have hz1:=hE1.size_le;(try simp at hz1);replace kOw:=kOw.ext hE1;refine hK _ _ (((hE1.but _)).bel _) ?_;clear hK hx;intro hx;refine jp ?_;refine jCN hx (fun K hK=> ?_) ?_;have cOw:=kOw.cell;go_simp;first|refine hK _ _ jN ?_|refine hK undef _ jN ?_
    clear hK hx;intro hx;refine jp ?_;refine jCN hx (fun K hK=> ?_);refine yL Tryz.el47 _ _ rfl rfl _ D _ c2 (words x.2) rfl (hD5.ext jX) (v5 x.2) (by omega) (by omega) (Nat.le_refl _) ?_;intro D' c2' w2 hD2 hE2;have hz2:=hE2.size_le;(try simp at hz2);replace kOw:=kOw.ext hE2;refine hK _ _ (((hE2.but _)).bel _) ?_;clear hK hx;intro hx;refine jp ?_;first|refine jTN hx ?_|refine jTS ?_
    refine jTC (fun K hK=> ?_);go_simp;first|refine hK _ _ jN ?_|refine hK undef _ jN ?_
    clear hK;intro hr;replace kOw:=qv hr kOw;replace hx:=hx.trans hr;clear hr;refine jp ?_;refine jCN hx (fun K hK=> ?_);refine zX Tryz.el23 _ _ rfl W.heap.size _ _ _ rfl (zm hN5 jX) _ 1 1 _ rfl (yF _ [_,_] 106 1 2 rfl) (by simp[Value.oneCell']) (by omega) (by omega) (by(first|omega|(simp;done)|(simp;omega))) ?_;intro A2 c3 w3 hN3 hg3 hat3;replace kOw:=kOw.but (zL hg3) hoA;refine hK _ _ (((But.more (zL hg3) hAS).bel _)) ?_;clear hK hx;intro hx;refine jp ?_;first|refine jTN hx ?_|refine jTS ?_
    refine yl hx (fun K hK=> ?_);have cOw:=kOw.cell;have fOw:=kOw.froz;go_simp;refine hK _ ((Bel.setIn (p:=⟨o,0,none⟩) (Bel.refl _ _ _) hoS _)) ?_;clear hK hx;intro hx;refine zi ?_;rotate_left;refine jCN hx (fun K hK=> ?_);refine yL Tryz.el47 _ _ rfl rfl _ D _ c2 (words x.2) rfl (hD5.ext jX) (v5 x.2) (by omega) (by omega) (Nat.le_refl _) ?_;intro D' c2' w2 hD2 hE2;have hz2:=hE2.size_le;(try simp at hz2);replace kOw:=kOw.ext hE2;refine hK _ _ (((hE2.but _)).bel _) ?_;clear hK hx;intro hx;refine jp ?_;first|refine jTN hx ?_|refine jTS ?_
    refine jCN hx (fun K hK=> ?_) ?_;have cOw:=kOw.cell;go_simp;first|refine hK _ _ jN ?_|refine hK undef _ jN ?_
    clear hK hx;intro hx;refine jp ?_;refine jTC (fun K hK=> ?_);go_simp;first|refine hK _ _ jN ?_|refine hK undef _ jN ?_
    clear hK;intro hr;replace kOw:=qv hr kOw;replace hx:=hx.trans hr;clear hr;refine jp ?_;refine jCN hx (fun K hK=> ?_);refine zX Tryz.el23 _ _ rfl W.heap.size _ _ _ rfl (zm hN5 jX) _ 1 1 _ rfl (yF _ [_,_] 106 1 2 rfl) (by simp[Value.oneCell']) (by omega) (by omega) (by(first|omega|(simp;done)|(simp;omega))) ?_;intro A2 c3 w3 hN3 hg3 hat3;replace kOw:=kOw.but (zL hg3) hoA;refine hK _ _ (((But.more (zL hg3) hAS).bel _)) ?_;clear hK hx;intro hx;refine jp ?_;first|refine jTN hx ?_|refine jTS ?_
    refine yl hx (fun K hK=> ?_);have cOw:=kOw.cell;have fOw:=kOw.froz;go_simp;refine hK _ ((Bel.setIn (p:=⟨o,0,none⟩) (Bel.refl _ _ _) hoS _)) ?_;clear hK hx;intro hx;refine zi ?_;rotate_left;refine jTC (fun K hK=> ?_);go_simp;first|refine hK _ _ jN ?_|refine hK undef _ jN ?_
    clear hK;intro hr;replace kOw:=qv hr kOw;replace hx:=hx.trans hr;clear hr;refine jp ?_;refine jCN hx (fun K hK=> ?_);have cOw:=kOw.cell;go_simp;first|refine hK _ _ jN ?_|refine hK undef _ jN ?_
    clear hK hx;intro hx;refine jp ?_;refine jCN hx (fun K hK=> ?_);refine zX Tryz.el23 _ _ rfl W.heap.size _ _ _ rfl (zm hN5 jX) _ 1 1 _ rfl (yF _ [_,_] 106 1 2 rfl) (by simp[Value.oneCell']) (by omega) (by omega) (by(first|omega|(simp;done)|(simp;omega))) ?_;intro A2 c3 w3 hN3 hg3 hat3;replace kOw:=kOw.but (zL hg3) hoA;refine hK _ _ (((But.more (zL hg3) hAS).bel _)) ?_;clear hK hx;intro hx;refine jp ?_;first|refine jTN hx ?_|refine jTS ?_
    refine yl hx (fun K hK=> ?_);have cOw:=kOw.cell;have fOw:=kOw.froz;go_simp;refine hK _ ((Bel.setIn (p:=⟨o,0,none⟩) (Bel.refl _ _ _) hoS _)) ?_;clear hK hx;intro hx;refine zi ?_;rotate_left
    all_goals
     obtain⟨kO6,hG6⟩:=zgk (x:=x) hG kO (hX5.trans jX) hR1 hD2 hE2 jX (by(first|omega|(simp;done)|(simp;omega))) (by(first|omega|(simp;done)|(simp;omega))) (by omega) (by simp only[List.length_take];omega) hN3 hg3 hat3;have hE6:=But.ext (hEW.trans hX5) (zY hx).but (fun q hq=>(hSW q hq).1);go_wp2_with fail;go_roundw;case rel=>exact⟨k+1,_,_,by omega,by go_num,kO6,by rw[List.take_add_one,Hx0.out];exact hG6,hE6⟩
     case measure=>simp[intOf];omega
   ·have hdec:decide ((k:Int)<g.ns.length)=false:=by simp;omega
    have hdec':decide (k<g.ns.length)=false:=by simp;omega
    have hkn:k=g.ns.length:=by omega
    rw[hkn,List.take_length]at hG;have k2':=k2.ext hEW;have c2:=k2'.cell;have f2:=k2'.froz;have l2:=k2'.lt;obtain⟨A1,a1,rfl⟩:=own_slice hG.nodes;go_wp2;have kF:=((k2'.set_ 0 (.slice A1 g.ns.length a1)).set_ 1 (.slice B1 g.us.length b1')).set_ 2 (.slice C1 g.rs.length c1');have cF:=kF.cell;have hfar: ∀q,kv (.slice A1 g.ns.length a1) (.slice B1 g.us.length b1') (.slice C1 g.rs.length c1') qs q≠some (w.heap.size+1):=fun q hq=>by have:=(hG.lt q _ hq).1;omega
    have hGF:=((((hG.far (a:=⟨w.heap.size+1,0,none⟩) hfar (.slice A1 g.ns.length a1)).far (a:=⟨w.heap.size+1,1,none⟩) hfar (.slice B1 g.us.length b1')).far (a:=⟨w.heap.size+1,2,none⟩) hfar (.slice C1 g.rs.length c1')).offb (o':=w.heap.size) (by omega)).base_ (base':=w.heap.size) (by omega);exact bodyPost_ret (v:= .agg #[.slice A1 g.ns.length a1,.slice B1 g.us.length b1',.slice C1 g.rs.length c1']) (by simp[results,Tryz.results43,go_sem,cF]) rfl ⟨_,_,_,_,rfl,hGF,Ext.setCell (Ext.setCell (Ext.setCell (hX.trans hEW) (by show w.heap.size<=w.heap.size+1;omega) _) (by show w.heap.size<=w.heap.size+1;omega) _) (by show w.heap.size<=w.heap.size+1;omega) _⟩
def yI(us:List Bool):Nat:=us.idxOf false
def yi(g:Gr)(x:Int)(need:Bool):Int:=
 if x=0 then(if need then 16 else 0)else if x<1∨32<x∨g.us.getD (x-1).toNat false=false then 14 else 0
def hNd(g:Gr)(x:Int):Int:=if x=0 then-1 else g.rs.getD (x-1).toNat 0
structure Vld(g:Gr):Prop where
 lu:g.us.length=32
 lr:g.rs.length=32
 un: ∀(i:Nat) (r:Int),g.us[i]? =some false->g.rs[i]? =some r->r= -1
 us: ∀(i:Nat) (r:Int),g.us[i]? =some true->g.rs[i]? =some r->0<=r∧r<g.ns.length
 nd: ∀(i:Nat) (x:List Int×List Int),g.ns[i]? =some x->x.1.length<=15∧x.2.length<=32∧∀(k:Nat) (r:Int),x.1[k]? =some r-> -1<=r∧r<g.ns.length
inductive Rch (g:Gr):Nat->Prop
 |root {i n:Nat}:g.us[i]? =some true->g.rs[i]? =some (n:Int) ->Rch g n
 |step {m n:Nat} {x:List Int×List Int} {k:Nat}:Rch g m->g.ns[m]? =some x->x.1[k]? =some (n:Int) ->Rch g n
noncomputable def znu (g:Gr) (n:Nat):Bool:= @decide (Rch g n) (Classical.propDecidable _)
theorem zdl{g:Gr}{n:Nat}:znu g n=true↔Rch g n:=by simp[znu]
noncomputable def qY (g:Gr):List Nat:=(List.range g.ns.length).filter (znu g)
def jD(x:List Int×List Int):Nat:=1+x.1.length+x.2.length
def za2(g:Gr)(l:List Nat):Nat:=(l.map fun n=>jD (g.ns.getD n ([],[]))).sum
noncomputable def jz (g:Gr):Nat:=za2 g (qY g)
def znv(d:Int):Int:=IntKind.u64.wrap d
noncomputable def xh (g:Gr) (n:Nat) (c a b d:Int):Gr×Int×Int:=
 if c=7 then(⟨g.ns,g.us.set (a-1).toNat false,g.rs.set (a-1).toNat (-1)⟩,0,0)
 else if c=9 then(g,0,256*((g.ns.getD n ([],[])).1.length:Int)+(g.ns.getD n ([],[])).2.length)
 else if c=4 then
  if b<0∨((g.ns.getD n ([],[])).2.length:Int)<=b then(g,17,0)else(g,0,(g.ns.getD n ([],[])).2.getD b.toNat 0)
 else if c=5 then
  if b<0∨((g.ns.getD n ([],[])).2.length:Int)<=b then(g,17,0)
  else(⟨g.ns.set n ((g.ns.getD n ([],[])).1,(g.ns.getD n ([],[])).2.set b.toNat (znv d)),g.us,g.rs⟩,0,0)
 else if b<0∨((g.ns.getD n ([],[])).1.length:Int)<=b then(g,17,0)
 else if c=3 then
  if yi g d false≠0 then(g,yi g d false,0)
  else(⟨g.ns.set n ((g.ns.getD n ([],[])).1.set b.toNat (hNd g d),(g.ns.getD n ([],[])).2),g.us,g.rs⟩,0,0)
 else if(g.ns.getD n ([],[])).1.getD b.toNat 0= -1 then(g,0,0)
 else if yI g.us<32 then(⟨g.ns,g.us.set (yI g.us) true,g.rs.set (yI g.us) ((g.ns.getD n ([],[])).1.getD b.toNat 0)⟩,0,(yI g.us:Int)+1)
 else(g,15,0)
noncomputable def doT (g:Gr) (c a b d:Int):Gr×Int×Int:=
 if c=1 then
  if a<0∨15<a∨b<0∨32<b then(g,13,0)
  else if yI g.us<32 then(⟨g.ns++ [(List.replicate a.toNat (-1),List.replicate b.toNat 0)],g.us.set (yI g.us) true,g.rs.set (yI g.us) g.ns.length⟩,0,(yI g.us:Int)+1)
  else(g,15,0)
 else if c=8 then(g,0,0)
 else if c=10 then(g,0,(jz g:Int))
 else if c=6 then
  if yi g a false≠0 then(g,yi g a false,0)
  else if yi g b false≠0 then(g,yi g b false,0)
  else(g,0,if hNd g a=hNd g b then 1 else 0)
 else if c=2∨c=3∨c=4∨c=5∨c=7∨c=9 then
  if yi g a true≠0 then(g,yi g a true,0)else xh g (hNd g a).toNat c a b d
 else(g,20,0)
theorem zkx(g:Gr)(need:Bool):yi g 0 need=if need then 16 else 0:=by simp[yi]
theorem zb8(g:Gr)(x:Int)(need:Bool)(h0:x≠0)(h:x<1∨32<x):yi g x need=14:=by unfold yi;rw[if_neg h0,if_pos];rcases h with h|h<;>simp[h]
theorem xi(g:Gr)(i:Nat)(need:Bool)(u:Bool)(h:i<32)(hu:g.us[i]? =some u):yi g ((i:Int)+1) need=if u then 0 else 14:=by
 have e:((i:Int)+1-1).toNat=i:=by omega
 have h0: ¬((i:Int)+1=0):=by omega
 have h1: ¬((i:Int)+1<1):=by omega
 have h2: ¬(32<(i:Int)+1):=by omega
 unfold yi;rw[if_neg h0,e,List.getD_eq_getElem?_getD,hu];cases u<;>simp[h1,h2]
theorem zgl(g:Gr):hNd g 0= -1:=by simp[hNd]
theorem zb9(g:Gr)(i:Nat)(r:Int)(hr:g.rs[i]? =some r):hNd g ((i:Int)+1)=r:=by
 have e:((i:Int)+1-1).toNat=i:=by omega
 have h0: ¬((i:Int)+1=0):=by omega
 unfold hNd;rw[if_neg h0,e,List.getD_eq_getElem?_getD,hr];rfl
theorem jE{g:Gr}{x:Int}{need:Bool}(hlu:g.us.length=32)(h:yi g x need=0):(x=0∧need=false)∨∃i:Nat,x=(i:Int)+1∧i<32∧g.us[i]? =some true:=by
 by_cases h0:x=0
 ·subst h0
  cases need
  ·exact Or.inl ⟨rfl,rfl⟩
  ·simp[yi]at h
 ·by_cases h1:x<1∨32<x
  ·rw[zb8 g x need h0 h1]at h;simp at h
  ·obtain⟨i,rfl⟩: ∃i:Nat,x=(i:Int)+1:=⟨(x-1).toNat,by omega⟩
   have hi:i<32:=by omega
   obtain⟨u,hu⟩: ∃u,g.us[i]? =some u:=⟨_,List.getElem?_eq_getElem (by omega)⟩;rw[xi g i need u hi hu]at h;cases u
   ·simp at h
   ·exact Or.inr ⟨i,rfl,hi,hu⟩
theorem ya(v:Value)(g:Gr)(x:Int)(need:Bool)(w:World)(hg:GRd w v g)(hlu0:g.us.length=32):
 Calls Tryz.prog 47 #[v,.int .i64 x,.bool need] w fun e w'=>e= .returned (.int .i64 (yi g x need))∧Ext w w':=by
 obtain⟨A,a,B,b,C,c,ps,rfl,h1,h2,h3,h4⟩:=hg;have hlu:32<=g.us.length:=by omega
 clear hlu0;have hE:Ext w (w.alloc (.cells #[.slice A g.ns.length a,.slice B g.us.length b,.slice C g.rs.length c] 41)):=by exact jX
 by_cases h0:x=0
 ·subst h0
  cases need
  all_goals
   clear h1 h2 h3 h4;go_enter Tryz.func47,Tryz.ntmps47;go_wp2;go_ret;exact⟨xQ (by rw[zkx];rfl),hE⟩
 ·have hd0:(x==0)=false:=by simpa using h0
  by_cases hlo:x<0
  ·have hd1:decide (x<0)=true:=by simpa using hlo
   have HE:=Lib.hid (zb8 g x need h0 (by omega));clear h1 h2 h3 h4;go_enter Tryz.func47,Tryz.ntmps47;go_wp2;go_ret;exact⟨xQ HE.out.symm,hE⟩
  ·have hd1:decide (x<0)=false:=by simpa using hlo
   by_cases hhi:32<x
   ·have hd2:decide (32<x)=true:=by simpa using hhi
    have HE:=Lib.hid (zb8 g x need h0 (by omega));clear h1 h2 h3 h4;go_enter Tryz.func47,Tryz.ntmps47;go_wp2;go_ret;exact⟨xQ HE.out.symm,hE⟩
   ·obtain⟨i,rfl⟩: ∃i:Nat,x=(i:Int)+1:=⟨(x-1).toNat,by omega⟩
    have hd2:decide (32<(i:Int)+1)=false:=by simpa using hhi
    have hi:i<32:=by omega
    obtain⟨bb,ob,u0,rfl,hu,hcell⟩:=(h2.ext hE).at_ (k:=i) (by omega)
    obtain⟨u,hu',rfl⟩: ∃u,g.us[i]? =some u∧u0= .bool u:=by
     simp only[vb,List.getElem?_map,Option.map_eq_some_iff]at hu;obtain⟨u,h,e⟩:=hu;exact⟨u,h,e.symm⟩
    have HE:=Lib.hid (xi g i need u hi hu');have b1:(i:Int)+1-1=i:=by omega
    have b2:i<g.us.length:=by omega
    have b3:(i:Int)<g.us.length:=by omega
    have lb:=zh hcell;clear h1 h2 h3 h4 hu hu';cases u
    all_goals
     go_enter Tryz.func47,Tryz.ntmps47;go_wp2;go_ret;exact⟨xQ HE.out.symm,hE⟩
theorem ji(v:Value)(g:Gr)(x:Int)(w:World)(hg:GRd w v g)(hlr0:g.rs.length=32)(hx:0<=x∧x<=32):
 Calls Tryz.prog 48 #[v,.int .i64 x] w fun e w'=>e= .returned (.int .i64 (hNd g x))∧Ext w w':=by
 obtain⟨A,a,B,b,C,c,ps,rfl,h1,h2,h3,h4⟩:=hg;have hlr:32<=g.rs.length:=by omega
 clear hlr0;have hE:Ext w (w.alloc (.cells #[.slice A g.ns.length a,.slice B g.us.length b,.slice C g.rs.length c] 41)):=by exact jX
 by_cases h0:x=0
 ·subst h0
  clear h1 h2 h3 h4;go_enter Tryz.func48,Tryz.ntmps48;go_wp2;go_ret;exact⟨xQ (by rw[zgl]),hE⟩
 ·have hd0:(x==0)=false:=by simpa using h0
  obtain⟨i,rfl⟩: ∃i:Nat,x=(i:Int)+1:=⟨(x-1).toNat,by omega⟩;have hi:i<32:=by omega
  obtain⟨bb,ob,u0,rfl,hu,hcell⟩:=(h3.ext hE).at_ (k:=i) (by omega)
  obtain⟨u,hu',rfl⟩: ∃u,g.rs[i]? =some u∧u0= .int .i64 u:=by
   simp only[yb,List.getElem?_map,Option.map_eq_some_iff]at hu;obtain⟨u,h,e⟩:=hu;exact⟨u,h,e.symm⟩
  have HE:=Lib.hid (zb9 g i u hu');have b1:(i:Int)+1-1=i:=by omega
  have b2:i<g.rs.length:=by omega
  have b3:(i:Int)<g.rs.length:=by omega
  have lb:=zh hcell;clear h1 h2 h3 h4 hu hu';go_enter Tryz.func48,Tryz.ntmps48;go_wp2;go_ret;exact⟨xQ HE.out.symm,hE⟩
theorem znw{us:List Bool}{k:Nat}(h1: ∀i<k,us[i]? =some true)(h2:us[k]? =some false):yI us=k:=by
 have hk:=(List.getElem?_eq_some_iff.1 h2).1;induction us generalizing k with
 |nil=>simp at hk
 |cons u us ih=>
  cases k with
  |zero=>
   simp at h2;subst h2;rfl
  |succ k=>
   have:=h1 0 (by omega);simp at this;subst this;have:=ih (k:=k) (fun i hi=>by have:=h1 (i+1) (by omega);simpa using this) (by simpa using h2) (by simpa using hk);unfold yI at this|-;rw[List.idxOf_cons];simp[this]
theorem zhv{us:List Bool}(h1: ∀i<us.length,us[i]? =some true):yI us=us.length:=by
 unfold yI;apply List.idxOf_eq_length;intro hm;obtain⟨i,hi⟩:=List.mem_iff_getElem?.1 hm;have hl:=(List.getElem?_eq_some_iff.1 hi).1;rw[h1 i hl]at hi;cases hi
theorem zca{us:List Bool}(h:yI us<us.length):us[yI us]? =some false:=by
 have hm:false∈us:=List.idxOf_lt_length_iff.1 h;rw[List.getElem?_eq_getElem h];simp[yI]
def zcb(us:List Bool):Int:=if yI us<us.length then(yI us:Int)+1 else 0
theorem qT(v:Value)(g:Gr)(w:World)(hg:GRd w v g)(hlu:g.us.length<=1000):
 Calls Tryz.prog 45 #[v] w fun e w'=>e= .returned (.int .i64 (zcb g.us))∧Ext w w':=by
 obtain⟨A,a,B,b,C,c,ps,rfl,h1,h2,h3,h4⟩:=hg;have hE:Ext w (w.alloc (.cells #[.slice A g.ns.length a,.slice B g.us.length b,.slice C g.rs.length c] 41)):=by exact jX
 have h2':=h2.ext hE;clear h1 h2 h3 h4;go_enter Tryz.func45,Tryz.ntmps45;go_wp2;go_loop [8] (fun i=> ∃k:Nat,k<=g.us.length∧i= .int .i64 k∧∀j<k,g.us[j]? =some true) (fun i=>g.us.length-(intOf i).toNat);case atStart=>exact⟨0,by omega,rfl,fun j hj=>by omega⟩
 case round=>
  obtain⟨k,hk,rfl,hall⟩:=hrel;have Hall:=Lib.hid hall;clear hall;by_cases hlt:k<g.us.length
  ·have hdec:decide ((k:Int)<g.us.length)=true:=by simp;omega
   have hdec':decide (k<g.us.length)=true:=by simp;omega
   have hkb:(k:Int)<g.us.length:=by omega
   obtain⟨bb,ob,u0,rfl,hu,hcell⟩:=h2'.at_ hlt
   obtain⟨u,hu',rfl⟩: ∃u,g.us[k]? =some u∧u0= .bool u:=by
    simp only[vb,List.getElem?_map,Option.map_eq_some_iff]at hu;obtain⟨u,h,e⟩:=hu;exact⟨u,h,e.symm⟩
   have Hu:=Lib.hid hu';have lb:=zh hcell;clear hu hu';cases u
   ·go_wp2
    go_ret;refine⟨xQ ?_,hE⟩;unfold zcb;rw[znw Hall.out Hu.out,if_pos hlt]
   ·go_wp2
    go_round
    case rel=>exact⟨k+1,by omega,by go_num,fun j hj=>by
     rcases Nat.lt_or_ge j k with h|h
     ·exact Hall.out j h
     ·have:j=k:=by omega
      subst this;exact Hu.out⟩
    case measure=>simp[intOf];omega
  ·have hdec:decide ((k:Int)<g.us.length)=false:=by simp;omega
   have hdec':decide (k<g.us.length)=false:=by simp;omega
   go_wp2;go_ret;refine⟨xQ ?_,hE⟩;unfold zcb;rw[zhv (fun i hi=>Hall.out i (by omega)),if_neg (by omega)]
theorem yW(v:Value)(g:Gr)(e:Int)(w:World)(hg:GRd w v g):
 Calls Tryz.prog 44 #[v,.int .i64 e] w fun r w'=>r= .returned (.tuple #[v,.agg #[.int .i64 e,.int .u64 0]])∧Ext w w':=by
 obtain⟨A,a,B,b,C,c,ps,rfl,h1,h2,h3,h4⟩:=hg;clear h1 h2 h3 h4;go_enter Tryz.func44,Tryz.ntmps44;go_wp2;exact bodyPost_ret (v:= .tuple #[.agg #[.slice A g.ns.length a,.slice B g.us.length b,.slice C g.rs.length c],.agg #[.int .i64 e,.int .u64 0]]) (by simp[results,Tryz.results44,go_sem]) rfl ⟨rfl,by exact jX⟩
end Go.Proofs.YtopcdfbplknmlaaGreat.Mo
