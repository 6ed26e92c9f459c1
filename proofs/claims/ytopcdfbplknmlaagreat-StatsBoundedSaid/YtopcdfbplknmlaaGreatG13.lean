/- Part of the proof of the claim: walks and plain laws; each theorem states its own conditions. -/
import Derived.Test.YtopcdfbplknmlaaGreatL
import Derived.Test.YtopcdfbplknmlaaGreatG12
import Derived.Deep.WholeRow
import Derived.Test.YtopcdfbplknmlaaGreatG2
import Derived.Laws.StructEq
set_option linter.all false
set_option maxHeartbeats 4000000
set_option maxRecDepth 100000
namespace Go.Proofs.YtopcdfbplknmlaaGreat
open Go.RowKit Go.Draw
theorem vI{P:Program}{ops:Array Oper}{R:World->World->Prop}{Q:Act->World->Prop}{rest:List (Bool×Oper)}{o:Oper}{a:Act}{w:World}(hd:o.dst=none)(hw:Region.wanted o (yielded ops a.tmps)=true)
 (h: ∀K:Act->World->Prop,(∀w',R w w'->(R w w'->wpL P ops R Q rest a w') ->K a w') ->o.wp P a w K (fun _ _ _=>False)):wpL P ops R Q ((false,o)::rest) a w:=
 jY hw (fun K hK=>h K fun w' hr he=>by
  have:=hK undef w' hr;rw[hd]at this;exact this he)
structure Cnt where
 al:Int
 ob:Int
 co:Int
 st:Int
 rd:Int
 cd:Int
 cp:Int
 en:Int
 wk:Int
structure Hpl where
 C:Cfg
 S:Sp
 Q:List (List Inc)
 sq:Int
 ss:List St
 us:List Bool
 rs:List Int
 si:Int
 k:Cnt
 dead:Bool
structure Hmm where
 Ac:Option Addr
 cc:Nat
 gW:Nat
 cW:Nat
 gF:Nat
 cF:Nat
 A:Option Addr
 c:Nat
 vs:List Value
 As:Option Addr
 cs:Nat
 ps:List (St×Value)
 U:Option Addr
 cu:Nat
 R:Option Addr
 cr:Nat
def ze(P:Hpl)(M:Hmm):Array Value:=
 #[.string P.C.s,.slice M.Ac P.C.l.length M.cc,.int .i64 P.C.f,.int .i64 P.S.sh,.slice (some ⟨M.gW,0,none⟩) P.S.ws.length M.cW,.slice (some ⟨M.gF,0,none⟩) P.S.fs.length M.cF,.slice M.A P.Q.length M.c,.int .i64 P.sq,.slice M.As M.ps.length M.cs,.slice M.U P.us.length M.cu,.slice M.R P.rs.length M.cr,.int .i64 P.si,
   .int .i64 P.k.al,.int .i64 P.k.ob,.int .i64 P.k.co,.int .i64 P.k.st,.int .i64 P.k.rd,.int .i64 P.k.cd,.int .i64 P.k.cp,.int .i64 P.k.en,.int .i64 P.k.wk,.bool P.dead]
structure HO(w:World)(base:Nat)(P:Hpl)(M:Hmm):Prop where
 ru:w.ownsRow base 79 4 (.slice M.Ac P.C.l.length M.cc) P.C.l.length (y2 P.C.l)
 sp:SOw w base P.S M.gW M.cW M.gF M.cF
 bo:BO w base M.A M.c M.vs P.Q
 so:SetO w base M.As M.cs M.ps
 hp:M.ps.map (·.1)=P.ss
 ro:RO w base M.U M.cu M.R M.cr P.us P.rs
structure Hpl.Sm(P:Hpl):Prop where
 l:P.C.l.length<=4
 w1:0<P.S.ws.length
 w2:P.S.ws.length<=100000
 f1:0<P.S.fs.length
 f2:P.S.fs.length<=64
 q1:P.Q.length<=1000
 q2: ∀q∈P.Q,q.length<=10000
 s1:P.ss.length<=10000
 s2: ∀s∈P.ss,s.l.length<=100000
 u:P.us.length<=1000
 r:P.rs.length<=1000
theorem HO.ext{w w':World}{base:Nat}{P:Hpl}{M:Hmm}(h:HO w base P M)(he:Ext w w'):HO w' base P M:=⟨zm h.ru he,h.sp.ext he,h.bo.ext he,h.so.ext he,h.hp,h.ro.ext he⟩
def Ap(P:Hpl)(M:Hmm):Prop:= ∀b,(Value.slice M.R P.rs.length M.cr).ownBlock=some b->b≠M.gW
def zr3(w:World)(P:Hpl)(r:Ending)(w':World):Prop:= ∃M,r= .returned (.agg (ze P M))∧HO w' w.heap.size P M∧Ext w w'∧Ap P M
theorem Tryz.elR:Elem Tryz.prog 23 79 (.agg #[.float .f64 0,.int .i64 0,.int .i64 0,.int .i64 0]) 4 32:=⟨Tryz.underlying23,by kernel_rfl,rfl,by omega⟩
def xc(a:Addr)(n:Nat):Sem (Array Value):=loadCellsFrom a 0 n #[]
def yw(a:Addr)(vs:List Value):Sem Unit:=storeCells a vs 0
theorem zqg(a:Addr)(n:Nat):loadCellsFrom a 0 n #[]=xc a n:=rfl
theorem zqh(a:Addr)(vs:List Value):storeCells a vs 0=yw a vs:=rfl
theorem xd(a:Addr)(u v:Value)(vs:List Value):storeCells a (u::v::vs) 0=yw a (u::v::vs):=rfl
theorem yx(a:Addr)(xs:Array Value):storeCells a xs.toList 0=yw a xs.toList:=rfl
theorem xe(a:Addr)(v:Value):yw a [v]=storeCells a [v] 0:=rfl
theorem za(P:Hpl)(M:Hmm):(ze P M).size=22:=rfl
theorem zg(P:Hpl)(M:Hmm):(ze P M).all (·.oneCell')=true:=by simp[ze,Value.oneCell']
theorem zke{w:World}{b:Nat}{xs:Array Value}(k:Blk w b 38 xs)(h:xs.size=22):(loadVar 38 ⟨b,0,none⟩).run Tryz.prog w= .ok (.agg xs) w:=
 run_loadVar_row (P:=Tryz.prog) w b 38 38 xs (0,0) _ k Tryz.underlying38 rfl (by rw[h];kernel_rfl)
theorem zfv{w:World}{b:Nat}{xs:Array Value}(k:Blk w b 38 xs)(h:xs.size=22):(Instr.loadAt 38 (.pointer (some ⟨b,0,none⟩))).run Tryz.prog w= .ok (.agg xs) w:=by
 simp only[Instr.loadAt,Instr.sureAddr,Sem.run_bind,Sem.run_pure,Result.andThen];exact zke k h
theorem zj{w:World}{b:Nat}{xs:Array Value}(k:Blk w b 38 xs)(h:xs.size=22):(xc ⟨b,0,none⟩ 22).run Tryz.prog w= .ok xs w:=by
 have:=run_loadCells_list (P:=Tryz.prog) w ⟨b,0,none⟩ xs.toList (fun j v hv=>by
  have hadd:(⟨b,0,none⟩:Addr).add j=⟨b,j,none⟩:=by unfold Addr.add;split<;>simp_all
  rw[hadd,k.cell j];simpa using hv)
 simp only[loadCells,Array.length_toList,h,Array.toArray_toList]at this;exact this
theorem zhd(w:World)(zs xs:Array Value)(hz:zs.size=22)(h:xs.size=22)(h1:xs.all (·.oneCell')=true):(Instr.storeAt 38 (.pointer (some ⟨w.heap.size,0,none⟩)) (.agg xs)).run Tryz.prog (w.alloc (.cells zs 38))= .ok () (w.alloc (.cells xs 38)):=
 run_storeAt_new (P:=Tryz.prog) w 38 zs xs (by rw[h];kernel_rfl) (by rw[hz,h]) h1
theorem zT(w:World)(zs xs:Array Value)(hz:zs.size=22)(h:xs.size=22)(h1:xs.all (·.oneCell')=true):(yw ⟨w.heap.size,0,none⟩ xs.toList).run Tryz.prog (w.alloc (.cells zs 38))= .ok () (w.alloc (.cells xs 38)):=
 run_storeCells_new (P:=Tryz.prog) w 38 zs xs (by rw[h];kernel_rfl) (by rw[hz,h]) h1
theorem zah: ∀(l:List (Nat×Int×Int×Int)),∀u∈y2 l,u.oneCell'=true
 | [],u,h=>by cases h
 |r::l,u,h=>by
  simp only[y2,zc4,List.mem_append,List.mem_cons,List.not_mem_nil,or_false]at h;rcases h with(rfl|rfl|rfl|rfl)|h
  ·rfl
  ·rfl
  ·rfl
  ·rfl
  ·exact zah l u h
theorem yE{w:World}{b:Nat}{t:TypeId}{xs:Array Value}(k:Blk w b t xs)(o:Nat)(vs:List Value)(h:o+vs.length<=xs.size)(h1: ∀v∈vs,v.oneCell'=true):(yw ⟨b,o,none⟩ vs).run Tryz.prog w= .ok () (w.setCells b o vs):=by
 have:=run_storeCells_cells (P:=Tryz.prog) b o vs 0 w (fun j hj=>by
  rw[k.cell,Array.getElem?_eq_getElem (by omega)];rfl) (fun j hj=>k.froz _) h1
 unfold yw;simpa using this
theorem yd{w:World}{b:Nat}{t:TypeId}{xs:Array Value}(k:Blk w b t xs)(o n:Nat)(cs:List Value)(hn:cs.length=n)(h: ∀j v,cs[j]? =some v->xs[o+j]? =some v):(xc ⟨b,o,none⟩ n).run Tryz.prog w= .ok cs.toArray w:=by
 have:=run_loadCells_list (P:=Tryz.prog) w ⟨b,o,none⟩ cs (fun j v hv=>by
  have hadd:(⟨b,o,none⟩:Addr).add j=⟨b,o+j,none⟩:=by unfold Addr.add;split<;>simp_all
  rw[hadd,k.cell];exact h j v hv)
 simp only[loadCells,hn]at this;exact this
theorem yH(P:Hpl)(M:Hmm): ∀j v,[Value.int .i64 P.S.sh,.slice (some ⟨M.gW,0,none⟩) P.S.ws.length M.cW,.slice (some ⟨M.gF,0,none⟩) P.S.fs.length M.cF][j]? =some v->(ze P M)[3+j]? =some v
 |0,_,h=>h
 |1,_,h=>h
 |2,_,h=>h
 |j+3,_,h=>by simp at h
theorem zmy(P:Hpl)(M:Hmm): ∀j v,[Value.slice M.U P.us.length M.cu,.slice M.R P.rs.length M.cr][j]? =some v->(ze P M)[9+j]? =some v
 |0,_,h=>h
 |1,_,h=>h
 |j+2,_,h=>by simp at h
theorem yR{w w':World}{base n size b:Nat}{v:Value}{e:TypeId}{xs:List Value}(h:w.ownsRow base e size v n xs)(he:But [b] w w')(hb:b<base):w'.ownsRow base e size v n xs:=
 zlx h he (fun x hx=>by have:=List.mem_singleton.1 hx;omega)
theorem BO.stepB{w w':World}{base c b:Nat}{A:Option Addr}{vs:List Value}{Q:List (List Inc)}(h:BO w base A c vs Q)(he:But [b] w w')(hb:b<base):BO w' base A c vs Q:=
 ⟨h.vl,yR h.out he hb,fun i v q hv hq=>yR (h.each i v q hv hq) he hb,h.apart⟩
theorem RO.stepB{w w':World}{base cu cr b:Nat}{U R:Option Addr}{us:List Bool}{rs:List Int}(h:RO w base U cu R cr us rs)(he:But [b] w w')(hb:b<base):RO w' base U cu R cr us rs:=⟨yR h.u he hb,yR h.r he hb⟩
theorem SOw.stepB{w w':World}{base gW cW gF cF b:Nat}{S:Sp}(h:SOw w base S gW cW gF cF)(he:But [b] w w')(hb:b<base):SOw w' base S gW cW gF cF:=⟨yR h.W he hb,yR h.F he hb⟩
theorem SetO.stepB{w w':World}{base c b:Nat}{t:TypeId}{xs:Array Value}{A:Option Addr}{ps:List (St×Value)}(h:SetO w base A c ps)(k:Blk w b t xs)(ht:(3:TypeId)≠t)(he:But [b] w w')(hb:b<base):SetO w' base A c ps:=
 ⟨yR h.out he hb,fun p hp=>zo (h.each p hp) he (fun x hx hm=>by
   have hm:=List.mem_singleton.1 hm;subst hm;exact zN (h.each p hp) k ht hx)⟩
theorem zD(w:World)(b:Nat)(xs:Array Value):But [b] w (w.setRow b xs):=⟨rfl,rfl,rfl,by simp,fun k _ hn=>setRow_other w b k xs (fun h=>hn (by simp[h]))⟩
theorem zO{w:World}{b:Nat}{ys xs:Array Value}(k:Blk w b 38 ys)(hy:ys.size=22)(h:xs.size=22)(h1:xs.all (·.oneCell')=true):(yw ⟨b,0,none⟩ xs.toList).run Tryz.prog w= .ok () (w.setRow b xs):=by
 have hi:(Tryz.prog.info? 38).map (·.size)=some xs.size:=by rw[h];kernel_rfl
 have:=run_storeVar_row (P:=Tryz.prog) w b 38 38 ys xs k hi (by rw[hy,h]) h1;cases hq:Tryz.prog.info? 38 with
 |none=>simp[hq]at hi
 |some i=>
  have hs:xs.size=i.size:=by simp[hq]at hi;omega
  unfold yw;simpa[storeVar,sizeOf,typeInfo,hq,Value.cells,hs]using this
attribute [local go_sem↓] zqg zqh in
theorem zkf{Q:Ending->World->Prop}{a:Act}{W:World}{g:Nat}{xs:Array Value}(hd:a.defers= [])(h2:a.tmps[2]?.getD undef= .pointer (some ⟨g,0,none⟩))
 (k:Blk W g 38 xs) (h:xs.size=22) (hQ:Q (.returned (.agg xs)) W):bodyPost Tryz.prog Tryz.f39 Q Exit.ret a W:=by
 have hl:=zj k h;exact bodyPost_ret (v:= .agg xs) (by simp[results,Tryz.results39,h2,go_sem,hl]) hd hQ
attribute [local go_sem↓] zqg zqh in
theorem qo(P:Hpl)(M:Hmm)(w:World)(h:HO w 0 P M)(hs:P.Sm):Calls Tryz.prog 39 #[.agg (ze P M)] w (zr3 w P):=by
 have Hs:=Lib.hid hs;have hrl:=hs.l;have Hps:=Lib.hid (show M.ps.length<=10000∧∀p∈M.ps,p.1.l.length<=100000 from⟨by have:=hs.s1;rw[<-h.hp]at this;simpa using this,fun p hp=>hs.s2 p.1 (by rw[<-h.hp];exact List.mem_map_of_mem hp)⟩);clear hs;go_enter Tryz.func39,Tryz.ntmps39;go_upto_region 1 with fail;refine za0 (fun W k1 k2 hE0=> ?_);obtain⟨b1,hb1⟩: ∃b,w.heap.size=b:=⟨_,rfl⟩;rw[hb1]at k1 k2|-;have Hb1:=Lib.hid hb1;clear hb1;have hld:=zfv k1 (za P M);have hlc:=zj k1 (za P M);have hst:=fun zs hz=>zhd W zs (ze P M) hz (za P M) (zg P M)
 have hst2:=fun zs hz=>zT W zs (ze P M) hz (za P M) (zg P M)
 have hsz:=za P M;go_upto_region 2 with fail;clear hld hlc hst hst2 hsz;refine yN (fun W1 k3 hE1'=> ?_);obtain⟨b3,hb3⟩: ∃b,W.heap.size=b:=⟨_,rfl⟩;have hlt3:=k2.lt;rw[hb3]at k3 hlt3|-;clear hb3;replace k1:=k1.ext hE1';replace k2:=k2.ext hE1';have hE1:=hE0.trans hE1';clear hE1' hE0;have r1:W1.cell? ⟨b1,1,none⟩=some (.slice M.Ac P.C.l.length M.cc):=k1.cell 1;have r3:W1.cell? ⟨b3,1,none⟩=some (.slice M.Ac P.C.l.length M.cc):=k3.cell 1;have f3:=k3.froz;have l1:=k1.lt;have l3:=k3.lt;go_upto_region 3 with(first|(at_builtin;refine y6 rfl Tryz.elR _ _ rfl rfl _ _ _ _ (y2 P.C.l) rfl (Rd.of_own (zm h.ru hE1)) (zah _) (by omega) (by omega) (Nat.le_refl _) ?_;intro B' b' w2 hB' hE2;have hs2:=yE (k3.ext hE2) 1 [.slice B' P.C.l.length b'] (by rw[za];simp) (by simp[Value.oneCell'])));have k3s:Blk (w2.setCells b3 1 [.slice B' P.C.l.length b']) b3 38 (ze P {M with Ac:=B',cc:=b'}):=(k3.ext hE2).set_ 1 (.slice B' P.C.l.length b');have e3:But [b3] w2 (w2.setCells b3 1 [.slice B' P.C.l.length b']):=But.setCell (But.refl _ _) (by simp) _;clear hs2 r1 r3 f3;generalize w2.setCells b3 1 [.slice B' P.C.l.length b']=W2 at*;have hw3:w.heap.size<=b3:=by have:=Hb1.out;omega
 have hEw:Ext w W2:=But.ext (hE1.trans hE2) e3 (fun q hq=>by have:=List.mem_singleton.1 hq;omega);have hru:=zo hB' e3 (fun b hb hm'=>by have:=List.mem_singleton.1 hm';have:=(World.ownsRow.lt hB' b hb).1;omega);replace k1:=(k1.ext hE2).but e3 (by simp;omega);replace k2:=(k2.ext hE2).but e3 (by simp;omega);clear hB' e3 k3 hE2;have hl3:=yd k1 3 3 _ rfl (yH P M);have l1:=k1.lt;have l32:=k3s.lt;go_upto_region 4 with(first|(go_at_call 60;refine(ym (some ⟨M.gW,0,none⟩) (some ⟨M.gF,0,none⟩) M.cW M.cF P.S _ ((h.sp.ext hEw).rd) Hs.out.w1 Hs.out.w2 Hs.out.f1 Hs.out.f2).mono ?_;rintro e w1 ⟨gW3,cW3,gF3,cF3,rfl,hS3,hE3⟩;have hs3:=yE (k3s.ext hE3) 3 [.int .i64 P.S.sh,.slice (some ⟨gW3,0,none⟩) P.S.ws.length cW3,.slice (some ⟨gF3,0,none⟩) P.S.fs.length cF3] (by rw[za];simp) (by simp[Value.oneCell'])));have e3:But [b3] w1 (w1.setCells b3 3 [.int .i64 P.S.sh,.slice (some ⟨gW3,0,none⟩) P.S.ws.length cW3,.slice (some ⟨gF3,0,none⟩) P.S.fs.length cF3]):=But.setCell (But.setCell (But.setCell (But.refl _ _) (by simp) _) (by simp) _) (by simp) _;have k3t:Blk (w1.setCells b3 3 [.int .i64 P.S.sh,.slice (some ⟨gW3,0,none⟩) P.S.ws.length cW3,.slice (some ⟨gF3,0,none⟩) P.S.fs.length cF3]) b3 38 (ze P {M with Ac:=B',cc:=b',gW:=gW3,cW:=cW3,gF:=gF3,cF:=cF3}):=(((k3s.ext hE3).set_ 3 _).set_ 4 _).set_ 5 _;clear hs3 hl3 k3s;generalize w1.setCells b3 3 [.int .i64 P.S.sh,.slice (some ⟨gW3,0,none⟩) P.S.ws.length cW3,.slice (some ⟨gF3,0,none⟩) P.S.fs.length cF3]=W3 at*;have hsz2:=hE1.size_le;have hszw:=hEw.size_le;replace hEw:Ext w W3:=But.ext (hEw.trans hE3) e3 (fun q hq=>by have:=List.mem_singleton.1 hq;omega);replace hru:=yR (zm hru hE3) e3 l3;replace hS3:=hS3.stepB e3 l32;replace k1:=(k1.ext hE3).but e3 (by simp;omega);replace k2:=(k2.ext hE3).but e3 (by simp;omega);have k3s:=k3t;clear k3t e3 hE3;have r1:W3.cell? ⟨b1,6,none⟩=some (.slice M.A P.Q.length M.c):=k1.cell 6;have l1:=k1.lt;have l33:=k3s.lt;go_upto_region 5 with(first|(go_at_call 61;refine(vG M.A M.c M.vs P.Q _ (h.bo.ext hEw) Hs.out.q1 Hs.out.q2).mono ?_;rintro e w1 ⟨A4,c4,vs4,rfl,hB4,hE4⟩;have hs4:=yE (k3s.ext hE4) 6 [.slice A4 P.Q.length c4] (by rw[za];simp) (by simp[Value.oneCell'])));have e4:But [b3] w1 (w1.setCells b3 6 [.slice A4 P.Q.length c4]):=But.setCell (But.refl _ _) (by simp) _;have k3t:Blk (w1.setCells b3 6 [.slice A4 P.Q.length c4]) b3 38 (ze P {M with Ac:=B',cc:=b',gW:=gW3,cW:=cW3,gF:=gF3,cF:=cF3,A:=A4,c:=c4,vs:=vs4}):=(k3s.ext hE4).set_ 6 _;clear hs4 r1 k3s;generalize w1.setCells b3 6 [.slice A4 P.Q.length c4]=W4 at*;have hsz3:=hEw.size_le;replace hEw:Ext w W4:=But.ext (hEw.trans hE4) e4 (fun q hq=>by have:=List.mem_singleton.1 hq;omega);replace hru:=yR (zm hru hE4) e4 l3;replace hS3:=(hS3.ext hE4).stepB e4 l32;replace hB4:=hB4.stepB e4 l33;replace k1:=(k1.ext hE4).but e4 (by simp;omega);replace k2:=(k2.ext hE4).but e4 (by simp;omega);have k3s:=k3t;clear k3t e4 hE4;have r1:W4.cell? ⟨b1,8,none⟩=some (.slice M.As M.ps.length M.cs):=k1.cell 8;have l1:=k1.lt;have l34:=k3s.lt;go_upto_region 6 with(first|(go_at_call 62;refine(j6 M.As M.cs M.ps _ (h.so.ext hEw) Hps.out.1 Hps.out.2).mono ?_;rintro e w1 ⟨ps5,A5,c5,hps5,rfl,hT5,hE5⟩;have hs5:=yE (k3s.ext hE5) 8 [.slice A5 ps5.length c5] (by rw[za];simp) (by simp[Value.oneCell'])));have e5:But [b3] w1 (w1.setCells b3 8 [.slice A5 ps5.length c5]):=But.setCell (But.refl _ _) (by simp) _;have k3t:Blk (w1.setCells b3 8 [.slice A5 ps5.length c5]) b3 38 (ze P {M with Ac:=B',cc:=b',gW:=gW3,cW:=cW3,gF:=gF3,cF:=cF3,A:=A4,c:=c4,vs:=vs4,As:=A5,cs:=c5,ps:=ps5}):=(k3s.ext hE5).set_ 8 _;replace hT5:=hT5.stepB (k3s.ext hE5) (by decide) e5 l34;clear hs5 r1 k3s;generalize w1.setCells b3 8 [.slice A5 ps5.length c5]=W5 at*;have hsz4:=hEw.size_le;replace hEw:Ext w W5:=But.ext (hEw.trans hE5) e5 (fun q hq=>by have:=List.mem_singleton.1 hq;omega);replace hru:=yR (zm hru hE5) e5 l3;replace hS3:=(hS3.ext hE5).stepB e5 l32;replace hB4:=(hB4.ext hE5).stepB e5 l33;replace k1:=(k1.ext hE5).but e5 (by simp;omega);replace k2:=(k2.ext hE5).but e5 (by simp;omega);have k3s:=k3t;clear k3t e5 hE5;have hl6:=yd k1 9 2 _ rfl (zmy P M);have l1:=k1.lt;have l35:=k3s.lt;have hap0:=(hS3.lt).2.1;go_upto_region 7 with(first|(go_at_call 63;refine(zaf M.U M.R M.cu M.cr P.us P.rs _ (h.ro.ext hEw) Hs.out.u Hs.out.r).mono ?_;rintro e w1 ⟨U6,cu6,R6,cr6,rfl,hR6,hE6⟩;have hs6:=yE (k3s.ext hE6) 9 [.slice U6 P.us.length cu6,.slice R6 P.rs.length cr6] (by rw[za];simp) (by simp[Value.oneCell'])));have e6:But [b3] w1 (w1.setCells b3 9 [.slice U6 P.us.length cu6,.slice R6 P.rs.length cr6]):=But.setCell (But.setCell (But.refl _ _) (by simp) _) (by simp) _;obtain⟨M',hM'⟩: ∃M':Hmm,M'={M with Ac:=B',cc:=b',gW:=gW3,cW:=cW3,gF:=gF3,cF:=cF3,A:=A4,c:=c4,vs:=vs4,As:=A5,cs:=c5,ps:=ps5,U:=U6,cu:=cu6,R:=R6,cr:=cr6}:=⟨_,rfl⟩
 have k3t:Blk (w1.setCells b3 9 [.slice U6 P.us.length cu6,.slice R6 P.rs.length cr6]) b3 38 (ze P M'):=by
  rw[hM'];exact((k3s.ext hE6).set_ 9 _).set_ 10 _
 replace hT5:=(hT5.ext hE6).stepB (k3s.ext hE6) (by decide) e6 l34;clear hs6 hl6 k3s;generalize w1.setCells b3 9 [.slice U6 P.us.length cu6,.slice R6 P.rs.length cr6]=W6 at*;have hsz5:=hEw.size_le;replace hEw:Ext w W6:=But.ext (hEw.trans hE6) e6 (fun q hq=>by have:=List.mem_singleton.1 hq;omega);replace hru:=yR (zm hru hE6) e6 l3;replace hS3:=(hS3.ext hE6).stepB e6 l32;replace hB4:=(hB4.ext hE6).stepB e6 l33;replace hR6:=hR6.stepB e6 l35
 have hap: ∀b,(Value.slice R6 P.rs.length cr6).ownBlock=some b->b≠gW3:=fun b hb=>by
  have h1:=(World.ownsRow.lt hR6.r b hb).1;have h2:=hap0;omega
 replace k2:=(k2.ext hE6).but e6 (by simp;omega);clear e6 hE6 k1;have HM':=Lib.hid hM';clear hM';have hlc:=zj k3t (za P M');have hsr:=zO k2 rfl (za P M') (zg P M');have hszA:=za P M';go_wp2_with fail;have e7:=zD W6 (b1+1) (ze P M');have k2':Blk (W6.setRow (b1+1) (ze P M')) (b1+1) 38 (ze P M'):=setRow_heap W6 (b1+1) _ (ze P M') 38 (0,0) k2;have hb1:=Hb1.out;have hM':=HM'.out;refine zkf rfl rfl k2' (za P M') ⟨M',rfl,?_,But.ext hEw e7 (fun q hq=>by have:=List.mem_singleton.1 hq;omega),by subst hM';exact hap⟩;subst hM';refine⟨zu (yR (b:=b1+1) hru e7 (by omega)) (by omega),(hS3.stepB e7 (by omega)).base_ (by omega),(hB4.stepB e7 (by omega)).base_ (by omega),?_,hps5.trans h.hp,(hR6.stepB e7 (by omega)).base_ (by omega)⟩;have hT7:=hT5.stepB k2 (by decide) e7 (by omega);exact⟨zu hT7.out (by omega),hT7.each⟩
def vJ(F:List Inc)(zs:List Int):Bool:=decide (zs.length<=F.length∧((F.take zs.length).map (·.q)).Perm zs∧zs.Nodup)
theorem qp(F:List Inc)(zs:List Int):vJ F zs=true↔zs.length<=F.length∧((F.take zs.length).map (·.q)).Perm zs∧zs.Nodup:=by
 unfold vJ;exact decide_eq_true_iff
theorem zfw: ∀(zs T:List Int),zs.Nodup->(∀z∈zs,z∈T) ->T.length<=zs.length->T.Perm zs
 | [],T,_,_,hl=>by
   have:T= []:=List.eq_nil_of_length_eq_zero (by simpa using hl);subst this;exact List.Perm.refl _
 |z::zs,T,hn,hs,hl=>by
  have hz:=hs z List.mem_cons_self;have h1:=List.perm_cons_erase hz;have hn':=List.nodup_cons.1 hn
  have h2:=zfw zs (T.erase z) hn'.2 (fun y hy=>(List.mem_erase_of_ne (by rintro rfl;exact hn'.1 hy)).2 (hs y (List.mem_cons_of_mem _ hy))) (by
   rw[List.length_erase_of_mem hz];simp only[List.length_cons]at hl;omega)
  exact h1.trans (h2.cons z)
theorem zhe{F:List Inc}{zs:List Int}{n:Nat}(hl:zs.length=n)(hle:n<=F.length)(hn:(zs.take n).Nodup)(hs: ∀z∈zs.take n,z∈(F.take n).map (·.q)):vJ F zs=true:=by
 subst hl;rw[List.take_length]at hn hs;exact(qp F zs).2 ⟨hle,zfw zs _ hn hs (by simp;omega),hn⟩
theorem zkg{F:List Inc}{zs:List Int}{j k:Nat}{z:Int}(hj:zs[j]? =some z)(hk:zs[k]? =some z)(hjk:j<k):vJ F zs=false:=by
 refine Bool.eq_false_iff.2 fun ht=> ?_
 have hn:=((qp F zs).1 ht).2.2;have h1:=(List.getElem?_eq_some_iff.1 hj);have h2:=(List.getElem?_eq_some_iff.1 hk);exact List.pairwise_iff_getElem.1 hn j k h1.1 h2.1 hjk (by rw[h1.2,h2.2])
theorem zkh{F:List Inc}{zs:List Int}{k n:Nat}{z:Int}(hl:zs.length=n)(hk:zs[k]? =some z)(h:z∉(F.take n).map (·.q)):vJ F zs=false:=by
 subst hl;refine Bool.eq_false_iff.2 fun ht=> ?_
 have hp:=((qp F zs).1 ht).2.1;exact h (hp.mem_iff.2 (List.mem_of_getElem? hk))
theorem zhf{F:List Inc}{zs:List Int}{m n:Nat}{i:Inc}(hl:zs.length=n)(hk:F[m]? =some i)(hm:m<n)(hp:vJ F zs=true):i.q∈zs:=by
 subst hl;have hp:=((qp F zs).1 hp).2.1;refine hp.mem_iff.1 (List.mem_map.2 ⟨i,?_,rfl⟩);exact List.mem_of_getElem? (i:=m) (by rw[List.getElem?_take,if_pos hm];exact hk)
theorem zhg{F:List Inc}{zs:List Int}(h: ¬zs.length<=F.length):vJ F zs=false:=by
 rw[Bool.eq_false_iff];intro hp;exact h ((qp F zs).1 hp).1
theorem ziy(A:Option Addr)(c:Nat)(Q:List (List Inc))(F:List Inc)(w:World)(h:BRd w A Q)(hn:Q.length<=1000)(hF:Q.flatten=F)(hf:F.length<=100000):
 Calls Tryz.prog 123 #[.slice A Q.length c] w (zin w F):=by
 subst hF;exact zl0 A c Q w h hn hf
theorem zmz{w:World}{b o n:Nat}{l:List Inc}(h:Rd w (some ⟨b,o,none⟩) n 5 (zQ l)){k:Nat}{i:Inc}(hk:l[k]? =some i):
 w.cell? ⟨b,o+k*5,none⟩=some (.int .i64 i.q)∧w.cell? ⟨b,o+k*5+1,none⟩=some (.int .i64 i.b)∧w.cell? ⟨b,o+k*5+2,none⟩=some (.int .i64 i.f)∧w.cell? ⟨b,o+k*5+3,none⟩=some (.int .i64 i.l)∧w.cell? ⟨b,o+k*5+4,none⟩=some (.int .i64 i.w):=by
 obtain⟨b',o',he,h1⟩:=xo h hk;simp only[Option.some.injEq,Addr.mk.injEq,and_true]at he;obtain⟨rfl,rfl⟩:=he;exact h1
theorem zqz{w:World}{b o n:Nat}{zs:List Int}(h:Rd w (some ⟨b,o,none⟩) n 1 (yb zs)){k:Nat}{z:Int}(hk:zs[k]? =some z):w.cell? ⟨b,o+k,none⟩=some (.int .i64 z):=by
 have hl:=(List.getElem?_eq_some_iff.1 hk).1;have h1:=h.1;simp only[yb,List.length_map]at h1;obtain⟨b',o',he,hc⟩:=h.2 (by omega);simp only[Option.some.injEq,Addr.mk.injEq,and_true]at he;obtain⟨rfl,rfl⟩:=he;exact hc k _ (by simp[yb,hk])
theorem ziz{w:World}{A:Option Addr}{n size:Nat}{xs:List Value}(h:Rd w A n size xs)(hn:0<n): ∃b o,A=some ⟨b,o,none⟩:=by
 obtain⟨b,o,e,_⟩:=h.2 hn;exact⟨b,o,e⟩
theorem zbx{F:List Inc}{m:Nat}{i:Inc}(hi:F[m]? =some i)(z:Int):z∈(F.take (m+1)).map (·.q)↔z∈(F.take m).map (·.q)∨i.q=z:=by
 rw[List.take_add_one,hi];simp only[Option.toList,List.map_append,List.map_cons,List.map_nil,List.mem_append,List.mem_singleton];exact⟨fun h=>h.imp_right Eq.symm,fun h=>h.imp_right Eq.symm⟩
theorem vL{zs:List Int}{m:Nat}{y:Int}(hi:zs[m]? =some y)(z:Int):z∈zs.take (m+1)↔z∈zs.take m∨y=z:=by
 rw[List.take_add_one,hi];simp only[Option.toList,List.mem_append,List.mem_singleton];exact⟨fun h=>h.imp_right Eq.symm,fun h=>h.imp_right Eq.symm⟩
theorem zfx(A D:Option Addr)(a c:Nat)(Q:List (List Inc))(F:List Inc)(zs:List Int)(w:World)(h:BRd w A Q)(hn:Q.length<=1000)(hF:Q.flatten=F)(hf:F.length<=1000)(hz:Rd w D zs.length 1 (yb zs))(hzl:zs.length<=1000):
 Calls Tryz.prog 116 #[.slice A Q.length a,.slice D zs.length c] w fun r w'=>r= .returned (.bool (vJ F zs))∧Ext w w':=by
 have HF:=Lib.hid hF;clear hF;go_enter Tryz.func116,Tryz.ntmps116;by_cases hle:zs.length<=F.length
 ·have d1:decide ((F.length:Int)<zs.length)=false:=by(first|omega|(simp;done)|(simp;omega))
  have d1':decide (F.length<zs.length)=false:=by(first|omega|(simp;done)|(simp;omega))
  have hleI:(zs.length:Int)<=F.length:=by omega
  obtain⟨n,hzn⟩: ∃n,zs.length=n:=⟨_,rfl⟩;have Hzn:=Lib.hid hzn;rw[hzn]at hz hzl hle d1 d1' hleI|-;clear hzn;go_wp2_with(first|(go_at_call 123;refine(ziy A a Q F _ h hn HF.out (by omega)).mono ?_;rintro e w1 ⟨B,b,rfl,hB,hE1⟩;have hcap:=vX hB;have hcapI:(n:Int)<=b:=by omega));have hR:=Rd.of_own hB;have hzR:=hz.ext hE1;clear hB h hz;go_loopw [26] (fun i wr=> ∃k:Nat,k<=n∧i= .int .i64 k∧(zs.take k).Nodup∧(∀z∈zs.take k,z∈(F.take n).map (·.q))∧Ext w1 wr) (fun i _=>n-(intOf i).toNat);case atStart=>exact⟨0,by omega,rfl,by simp,by simp,by exact jX⟩
  case round=>
   obtain⟨k,hk,rfl,hnd,hsub,hE⟩:=hrel;have Hnd:=Lib.hid hnd;have Hsub:=Lib.hid hsub;clear hnd hsub;by_cases hlt:k<n
   ·have hdec:decide ((k:Int)<n)=true:=by simp;omega
    have hdec':decide (k<n)=true:=by simp;omega
    have hkI:(k:Int)<n:=by omega
    obtain⟨z,hzk⟩: ∃z,zs[k]? =some z:=⟨_,List.getElem?_eq_getElem (by have:=Hzn.out;omega)⟩;obtain⟨bD,oD,rfl⟩:=ziz hzR (by omega);obtain⟨bB,oB,rfl⟩:=ziz hR (by omega);have ck:=zqz (hzR.ext hE) hzk;have lk:=zh ck;have Hzk:=Lib.hid hzk;clear hzk;go_wp2_with fail;go_loopw [8] (fun s wi=> ∃j:Nat,j<=k∧s= .int .i64 j∧z∉zs.take j∧Ext w1 wi) (fun s _=>k-(intOf s).toNat);case atStart=>exact⟨0,by omega,rfl,by simp,hE⟩
    case round=>
     clear ck lk hE hdec hdec';obtain⟨j,hj,rfl,hnm,hE⟩:=hrel;have Hnm:=Lib.hid hnm;clear hnm;by_cases hjk:j<k
     ·have e1:decide ((j:Int)<k)=true:=by simp;omega
      have e1':decide (j<k)=true:=by simp;omega
      have hjI:(j:Int)<n:=by omega
      have e2:decide ((j:Int)<n)=true:=by simp;omega
      have e2':decide (j<n)=true:=by simp;omega
      obtain⟨y,hy⟩: ∃y,zs[j]? =some y:=⟨_,List.getElem?_eq_getElem (by have:=Hzn.out;omega)⟩;have cy:=zqz (hzR.ext hE) hy;have ly:=zh cy;have Hy:=Lib.hid hy;clear hy;by_cases hyz:y=z
      ·subst hyz
       have Hp:=Lib.hid (zkg (F:=F) Hy.out Hzk.out hjk);go_wp2_with fail;go_ret;exact⟨xv Hp.out.symm,hE1.trans hE⟩
      ·have e3:decide (y=z)=false:=by simpa using hyz
       have e3':(y==z)=false:=by simpa using hyz
       have Hyz:=Lib.hid hyz;clear hyz;go_wp2_with fail;go_roundw;case rel=>exact⟨j+1,by omega,by go_num,fun hm=>((vL Hy.out z).1 hm).elim Hnm.out Hyz.out,hE⟩
       case measure=>simp[intOf];omega
     ·have e1:decide ((j:Int)<k)=false:=by simp;omega
      have e1':decide (j<k)=false:=by simp;omega
      have hjk':j=k:=by omega
      subst hjk';go_wp2_with fail;go_loopw [9,47] (fun f s wi=> ∃(m:Nat) (fb:Bool),m<=n∧s= .int .i64 m∧f= .bool fb∧(fb=true↔z∈(F.take m).map (·.q))∧Ext w1 wi) (fun _ s _=>n-(intOf s).toNat);case atStart=>exact⟨0,false,by omega,rfl,rfl,by simp,hE⟩
      case round=>
       clear hE e1 e1';obtain⟨m,fb,hm,rfl,rfl,hfb,hE⟩:=hrel;have Hfb:=Lib.hid hfb;clear hfb;by_cases hmn:m<n
       ·have e1:decide ((m:Int)<n)=true:=by simp;omega
        have e1':decide (m<n)=true:=by simp;omega
        have hmI:(m:Int)<n:=by omega
        obtain⟨i,hi⟩: ∃i,F[m]? =some i:=⟨_,List.getElem?_eq_getElem (by omega)⟩;obtain⟨c0,c1,c2,c3,c4⟩:=zmz (hR.ext hE) hi;have l1:=zh c0;have Hi:=Lib.hid hi;clear hi;cases fb with
        |true=>
         go_wp2_with fail;go_roundw;case rel=>exact⟨m+1,true,by omega,by go_num,rfl,by rw[zbx Hi.out];exact⟨fun _=> .inl (Hfb.out.1 rfl),fun _=>rfl⟩,by exact jX⟩
         case measure=>simp[intOf];omega
        |false=>
         by_cases hiz:i.q=z
         ·have e3:decide (i.q=z)=true:=by simpa using hiz
          have e3':(i.q==z)=true:=by simpa using hiz
          have Hiz:=Lib.hid hiz;clear hiz;go_wp2_with fail;go_roundw;case rel=>exact⟨m+1,true,by omega,by go_num,rfl,by rw[zbx Hi.out];exact⟨fun _=> .inr Hiz.out,fun _=>rfl⟩,by exact jX⟩
          case measure=>simp[intOf];omega
         ·have e3:decide (i.q=z)=false:=by simpa using hiz
          have e3':(i.q==z)=false:=by simpa using hiz
          have Hiz:=Lib.hid hiz;clear hiz;go_wp2_with fail;go_roundw;case rel=>exact⟨m+1,false,by omega,by go_num,rfl,by rw[zbx Hi.out];exact⟨(fun h=>by cases h),fun h=>h.elim Hfb.out.2 (fun h=>absurd h Hiz.out)⟩,by exact jX⟩
          case measure=>simp[intOf];omega
       ·have e1:decide ((m:Int)<n)=false:=by simp;omega
        have e1':decide (m<n)=false:=by simp;omega
        have hmn':m=n:=by omega
        subst hmn';cases fb with
        |true=>
         go_wp2_with fail;go_roundw
         case rel=>
          refine⟨j+1,by omega,by go_num,?_,?_,hE⟩
          ·rw[List.take_add_one,Hzk.out]
           refine List.nodup_append.2 ⟨Hnd.out,by simp,?_⟩;intro x hx y hy;simp only[Option.toList,List.mem_singleton]at hy;subst hy;rintro rfl;exact Hnm.out hx
          ·intro x hx
           rcases(vL Hzk.out x).1 hx with hx|rfl
           ·exact Hsub.out x hx
           ·exact Hfb.out.1 rfl
         case measure=>simp[intOf];omega
        |false=>
         have Hp:=Lib.hid (zkh (F:=F) Hzn.out Hzk.out (fun hm=>by have:=Hfb.out.2 hm;cases this));go_wp2_with fail;go_ret;exact⟨xv Hp.out.symm,hE1.trans hE⟩
   ·have hdec:decide ((k:Int)<n)=false:=by simp;omega
    have hdec':decide (k<n)=false:=by simp;omega
    have hkn:k=n:=by omega
    subst hkn;have Hp:=Lib.hid (zhe (F:=F) Hzn.out hle Hnd.out Hsub.out);clear Hnd Hsub;go_wp2_with fail;go_loopw [67] (fun s wi=> ∃m:Nat,m<=k∧s= .int .i64 m∧Ext w1 wi) (fun s _=>k-(intOf s).toNat);case atStart=>exact⟨0,by omega,rfl,hE⟩
    case round=>
     clear hE hdec hdec';obtain⟨m,hm,rfl,hE⟩:=hrel;by_cases hmn:m<k
     ·have e1:decide ((m:Int)<k)=true:=by simp;omega
      have e1':decide (m<k)=true:=by simp;omega
      have hmI:(m:Int)<k:=by omega
      obtain⟨bD,oD,rfl⟩:=ziz hzR (by omega);obtain⟨bB,oB,rfl⟩:=ziz hR (by omega);obtain⟨i,hi⟩: ∃i,F[m]? =some i:=⟨_,List.getElem?_eq_getElem (by omega)⟩;obtain⟨c0,c1,c2,c3,c4⟩:=zmz (hR.ext hE) hi;have l1:=zh c0;have Hi:=Lib.hid hi;clear hi;have hEn:=Ext.alloc (Ext.refl wr) (.cells #[.int .i64 i.q,.int .i64 i.b,.int .i64 i.f,.int .i64 i.l,.int .i64 i.w] 144);have ki:Blk (wr.alloc (.cells #[.int .i64 i.q,.int .i64 i.b,.int .i64 i.f,.int .i64 i.l,.int .i64 i.w] 144)) wr.heap.size 144 #[.int .i64 i.q,.int .i64 i.b,.int .i64 i.f,.int .i64 i.l,.int .i64 i.w]:=Blk.new rfl;go_upto_region 24 with fail;have hEa:=hE.trans hEn;clear c0 c1 c2 c3 c4 l1 hE hEn;generalize wr.alloc (.cells #[.int .i64 i.q,.int .i64 i.b,.int .i64 i.f,.int .i64 i.l,.int .i64 i.w] 144)=wj at*;generalize wr.heap.size=gi at*;go_wp2_with fail;go_loopw [14,73] (fun f s wl=> ∃(t:Nat) (fb:Bool),t<=k∧s= .int .i64 t∧f= .bool fb∧(fb=true↔i.q∈zs.take t)∧Ext wj wl) (fun _ s _=>k-(intOf s).toNat);case atStart=>exact⟨0,false,by omega,rfl,rfl,by simp,by exact jX⟩
      case round=>
       clear e1 e1';obtain⟨t,fb,ht,rfl,rfl,hfb,hE⟩:=hrel;have Hfb:=Lib.hid hfb;clear hfb;have kj:=ki.ext hE;have ci:=kj.cell;have li:=kj.lt;by_cases htn:t<k
       ·have e1:decide ((t:Int)<k)=true:=by simp;omega
        have e1':decide (t<k)=true:=by simp;omega
        have htI:(t:Int)<k:=by omega
        obtain⟨y,hy⟩: ∃y,zs[t]? =some y:=⟨_,List.getElem?_eq_getElem (by have:=Hzn.out;omega)⟩;have cy:=zqz (hzR.ext (hEa.trans hE)) hy;have ly:=zh cy;have Hy:=Lib.hid hy;clear hy;cases fb with
        |true=>
         go_wp2_with fail;go_roundw;case rel=>exact⟨t+1,true,by omega,by go_num,rfl,by rw[vL Hy.out];exact⟨fun _=> .inl (Hfb.out.1 rfl),fun _=>rfl⟩,by exact jX⟩
         case measure=>simp[intOf];omega
        |false=>
         by_cases hiz:i.q=y
         ·have e3:decide (i.q=y)=true:=by simpa using hiz
          have e3':(i.q==y)=true:=by simpa using hiz
          have Hiz:=Lib.hid hiz;clear hiz;go_wp2_with fail;go_roundw;case rel=>exact⟨t+1,true,by omega,by go_num,rfl,by rw[vL Hy.out];exact⟨fun _=> .inr Hiz.out.symm,fun _=>rfl⟩,by exact jX⟩
          case measure=>simp[intOf];omega
         ·have e3:decide (i.q=y)=false:=by simpa using hiz
          have e3':(i.q==y)=false:=by simpa using hiz
          have Hiz:=Lib.hid hiz;clear hiz;go_wp2_with fail;go_roundw;case rel=>exact⟨t+1,false,by omega,by go_num,rfl,by rw[vL Hy.out];exact⟨(fun h=>by cases h),fun h=>h.elim Hfb.out.2 (fun h=>absurd h.symm Hiz.out)⟩,by exact jX⟩
          case measure=>simp[intOf];omega
       ·have e1:decide ((t:Int)<k)=false:=by simp;omega
        have e1':decide (t<k)=false:=by simp;omega
        have htn':t=k:=by omega
        have hmem:=zhf Hzn.out Hi.out hmn Hp.out;have hft:fb=true:=Hfb.out.2 (by rw[htn',<-Hzn.out,List.take_length];exact hmem);subst hft;clear hmem;go_wp2_with fail;go_roundw;case rel=>exact⟨m+1,by omega,by go_num,hEa.trans hE⟩
        case measure=>simp[intOf];omega
     ·have e1:decide ((m:Int)<k)=false:=by simp;omega
      have e1':decide (m<k)=false:=by simp;omega
      go_wp2_with fail;go_ret;exact⟨xv Hp.out.symm,hE1.trans hE⟩
 ·have d1:decide ((F.length:Int)<zs.length)=true:=by(first|omega|(simp;done)|(simp;omega))
  have d1':decide (F.length<zs.length)=true:=by(first|omega|(simp;done)|(simp;omega))
  have Hp:=Lib.hid (zhg hle);go_wp2_with(first|(go_at_call 123;refine(ziy A a Q F _ h hn HF.out (by omega)).mono ?_;rintro e w1 ⟨B,b,rfl,hB,hE1⟩));go_ret;exact⟨xv Hp.out.symm,hE1⟩
def In.inc(i:In):Inc:=ke (i.x,i.wd)
structure Hpl.Gd(P:Hpl):Prop where
 sm:P.Sm
 ok:P.C.Ok
 ql:P.Q.length=P.C.l.length
 sh:3<=P.S.sh∧P.S.sh<=8
 iw: ∀q∈P.Q,∀i∈q,∃(x:Ch) (wd:Nat),i=ke (x,wd)∧wd<=100000
 fl:P.Q.flatten.length<=1000
structure Bt(Q:List (List Inc))(I:List In)(sq:Int):Prop where
 qs:Q.flatten.Perm (I.map In.inc)
 qb: ∀(k:Nat) (q:List Inc),Q[k]? =some q-> ∀i∈q,i.b=(k:Int)
 qa: ∀q∈Q,q.Pairwise (fun a b=>a.q<b.q)
 nw: ∀i∈I,1<=i.wd
 sq: ∀i∈I,i.x.q<sq
structure Hv(N:Nat)(P:Hpl)(B:Nat)(I:List In):Prop where
 vh:Vh P.S B I P.ss P.us P.rs
 wf:WfS P.ss
 ok:P.C.Ok
 ql:P.Q.length=P.C.l.length
 bt:Bt P.Q I P.sq
 s0:0<=P.sq∧P.sq<=N
 ct:0<=P.k.cp∧P.k.cp<=P.k.cd∧P.k.cd<=N*16384
section
variable{S:Sp} {B:Nat} {I I':List In} {sets:List St} {u:List Bool} {r:List Int}
theorem xX(h:I.Perm I'){o:AO}:o∈aos B I↔o∈aos B I':=⟨qK fun _ hi=>h.mem_iff.1 hi,qK fun _ hi=>h.mem_iff.2 hi⟩
theorem Lay.perm(h:Lay S B I)(hp:I.Perm I'):Lay S B I':=⟨h.pow,h.ch.perm (hp.map _),fun i hi=>h.fit i (hp.mem_iff.2 hi),fun i hi=>h.tile i (hp.mem_iff.2 hi)⟩
theorem Ptr.perm(hp:I.Perm I'){v:Int}(h:Ptr (aos B I) v):Ptr (aos B I') v:=h.mono fun _ ho=>(xX hp).1 ho
theorem Hok.perm(h:Hok S B I)(hp:I.Perm I'):Hok S B I':=⟨h.lay.perm hp,fun o ho=>h.head o ((xX hp).2 ho),fun o ho e he=>(h.refs o ((xX hp).2 ho) e he).perm hp⟩
theorem Rok.perm(hp:I.Perm I')(h:Rok (aos B I) u r):Rok (aos B I') u r:=⟨h.1,h.2.1,fun k b v hb hv=>⟨(h.2.2 k b v hb hv).1,fun ht=>by
 obtain⟨o,ho,e⟩:=(h.2.2 k b v hb hv).2 ht;exact⟨o,(xX hp).1 ho,e⟩⟩⟩
theorem Vh.perm(h:Vh S B I sets u r)(hp:I.Perm I'):Vh S B I' sets u r:=by
 refine⟨h.hok.perm hp,h.rt.perm hp,h.bd,fun x hx t ht=> ?_,fun i hi b hb j hj b' hb'=>h.cs i (hp.mem_iff.2 hi) b hb j (hp.mem_iff.2 hj) b' hb'⟩;obtain⟨o,ho,e⟩:=h.ss x hx t ht;exact⟨o,(xX hp).1 ho,e⟩
theorem xl{x:Ch}{o:AO}:o∈aos B (⟨x,0,[]⟩::I)↔o∈aos B I:=by
 unfold aos;simp[In.ao]
theorem qq(q b:Int)(L:List Ch):used (⟨q,b,[]⟩::L)=used L:=by simp[used]
theorem Chs.add0{L:List Ch}(h:Chs S L){q b:Int}(hq:0<=q∧q<=4294967295)(hb:0<=b∧b<4)(hn: ∀x∈L,x.q≠q):Chs S (⟨q,b,[]⟩::L):=by
 refine⟨h.sh,h.n2,h.wl,?_,?_,?_,?_,?_,?_⟩
 ·intro x hx
  rcases List.mem_cons.1 hx with rfl|hx
  ·exact⟨hq.1,hq.2,hb.1,hb.2⟩
  ·exact h.ids x hx
 ·simp only[List.map_cons,List.nodup_cons,List.mem_map,not_exists,not_and]
  exact⟨fun x hx=>hn x hx,h.sq⟩
 ·intro x hx p f hp
  rcases List.mem_cons.1 hx with rfl|hx
  ·simp at hp
  ·exact h.fr x hx p f hp
 ·rw[qq];exact h.nd
 ·rw[qq];exact h.free
 ·rw[qq];exact h.zero
theorem Chs.del0{L:List Ch}{q b:Int}(h:Chs S (⟨q,b,[]⟩::L)):Chs S L:=by
 refine⟨h.sh,h.n2,h.wl,fun x hx=>h.ids x (List.mem_cons_of_mem _ hx),?_,fun x hx=>h.fr x (List.mem_cons_of_mem _ hx),?_,?_,?_⟩
 ·have:=h.sq
  simp only[List.map_cons,List.nodup_cons]at this;exact this.2
 ·have:=h.nd;rw[qq]at this;exact this
 ·have:=h.free;rw[qq]at this;exact this
 ·have:=h.zero;rw[qq]at this;exact this
theorem zby(B:Nat)(h:8<=B):yJ 0 B=0:=by
 unfold yJ;rw[Nat.zero_add];exact Nat.div_eq_of_lt (by omega)
theorem Vh.add0(h:Vh S B I sets u r){q b:Int}(hq:0<=q∧q<=4294967295)(hb:0<=b∧b<4)(hn: ∀i∈I,i.x.q≠q):Vh S B (⟨⟨q,b,[]⟩,0,[]⟩::I) sets u r:=by
 have hl:=h.hok.lay;refine⟨⟨⟨hl.pow,?_,?_,?_⟩,fun o ho=>h.hok.head o (xl.1 ho),fun o ho e he=>(h.hok.refs o (xl.1 ho) e he).mono fun _ h=>xl.2 h⟩,⟨h.rt.1,h.rt.2.1,fun k b v hb hv=>⟨(h.rt.2.2 k b v hb hv).1,fun ht=> ?_⟩⟩,h.bd,fun x hx t ht=> ?_,?_⟩
 ·exact hl.ch.add0 hq hb fun x hx=>by
   obtain⟨i,hi,rfl⟩:=List.mem_map.1 hx;exact hn i hi
 ·intro i hi
  rcases List.mem_cons.1 hi with rfl|hi
  ·exact zby B hl.B8.1
  ·exact hl.fit i hi
 ·intro i hi
  rcases List.mem_cons.1 hi with rfl|hi
  ·rfl
  ·exact hl.tile i hi
 ·obtain⟨o,ho,e⟩:=(h.rt.2.2 k b v hb hv).2 ht
  exact⟨o,xl.2 ho,e⟩
 ·obtain⟨o,ho,e⟩:=h.ss x hx t ht
  exact⟨o,xl.2 ho,e⟩
 ·intro i hi b hb j hj b' hb'
  rcases List.mem_cons.1 hi with rfl|hi
  ·cases hb
  ·rcases List.mem_cons.1 hj with rfl|hj
   ·cases hb'
   ·exact h.cs i hi b hb j hj b' hb'
theorem Vh.del0{q b:Int}(h:Vh S B (⟨⟨q,b,[]⟩,0,[]⟩::I) sets u r):Vh S B I sets u r:=by
 have hl:=h.hok.lay;refine⟨⟨⟨hl.pow,hl.ch.del0,fun i hi=>hl.fit i (List.mem_cons_of_mem _ hi),fun i hi=>hl.tile i (List.mem_cons_of_mem _ hi)⟩,fun o ho=>h.hok.head o (xl.2 ho),fun o ho e he=>(h.hok.refs o (xl.2 ho) e he).mono fun _ h=>xl.1 h⟩,⟨h.rt.1,h.rt.2.1,fun k b v hb hv=>⟨(h.rt.2.2 k b v hb hv).1,fun ht=> ?_⟩⟩,h.bd,fun x hx t ht=> ?_,fun i hi b hb j hj b' hb'=>h.cs i (List.mem_cons_of_mem _ hi) b hb j (List.mem_cons_of_mem _ hj) b' hb'⟩
 ·obtain⟨o,ho,e⟩:=(h.rt.2.2 k b v hb hv).2 ht
  exact⟨o,xl.1 ho,e⟩
 ·obtain⟨o,ho,e⟩:=h.ss x hx t ht
  exact⟨o,xl.1 ho,e⟩
theorem zi0: ∀(L:List Ch),(∀x∈L,1<=x.c.length) ->L.length<=(used L).length
 | [],_=>Nat.le_refl _
 |x::L,h=>by
  have:=zi0 L (fun y hy=>h y (List.mem_cons_of_mem _ hy));have:=h x List.mem_cons_self;simp only[used,List.flatMap_cons,List.length_append,List.length_cons]at*;omega
theorem Lay.count(h:Lay S B I)(hn: ∀i∈I,1<=i.wd):I.length<=64:=by
 have h1:=h.ch.len_used;have h2:=h.ch.n2.2
 have h3:=zi0 (I.map (·.x)) (fun x hx=>by
  obtain⟨i,hi,rfl⟩:=List.mem_map.1 hx;have:=h.fit i hi;have:=hn i hi;rcases Nat.eq_zero_or_pos i.x.c.length with hz|hz
  ·have hB:=h.B8
   have:=zcr (wd:=i.wd) (B:=B) (by omega) (by omega);omega
  ·exact hz)
 rw[List.length_map]at h3;omega
end
section
variable{N:Nat} {P:Hpl} {B:Nat} {I:List In}
theorem Bt.mem{Q:List (List Inc)}{sq:Int}(h:Bt Q I sq){q:List Inc}(hq:q∈Q){i:Inc}(hi:i∈q): ∃j∈I,i=j.inc:=by
 have:=h.qs.mem_iff.1 (List.mem_flatten.2 ⟨q,hq,hi⟩);obtain⟨j,hj,e⟩:=List.mem_map.1 this;exact⟨j,hj,e.symm⟩
theorem Bt.len{Q:List (List Inc)}{sq:Int}(h:Bt Q I sq):Q.flatten.length=I.length:=by rw[h.qs.length_eq,List.length_map]
theorem Bt.qlen{Q:List (List Inc)}{sq:Int}(h:Bt Q I sq){q:List Inc}(hq:q∈Q):q.length<=I.length:=by
 rw[<-h.len];exact(List.sublist_flatten_of_mem hq).length_le
theorem zi1{l:List Nat}{n:Nat}(h:Asc l)(hb: ∀t∈l,t<n):l.length<=n:=vT n l (vE h) hb
theorem Hv.gd(h:Hv N P B I):P.Gd:=by
 have hl:=h.vh.hok.lay;have hc:=hl.ch;have hI:=hl.count h.bt.nw;have hB:=hl.B8;have hg:=h.ok.good;have hwl:=hc.wl;rw[hl.pow]at hwl;have hn2:=hc.n2;refine⟨⟨hg.2.2.1,?_,?_,by omega,hn2.2,?_,?_,?_,?_,?_,?_⟩,h.ok,h.ql,hc.sh,?_,?_⟩
 ·rw[hwl];exact Nat.mul_pos (by omega) (by omega)
 ·rw[hwl]
  calc P.S.fs.length*B<=64*256:=Nat.mul_le_mul hn2.2 hB.2
   _<=100000:=by omega
 ·have:=h.ql;have:=hg.2.2.1;omega
 ·intro q hq
  have:=h.bt.qlen hq;omega
 ·have:=h.wf.len;omega
 ·intro s hs
  have:=zi1 (h.wf.2 s hs).2.2.1 (h.wf.2 s hs).2.2.2;omega
 ·rw[h.vh.rt.1];omega
 ·rw[h.vh.rt.2.1];omega
 ·intro q hq i hi
  obtain⟨j,hj,rfl⟩:=h.bt.mem hq hi;exact⟨j.x,j.wd,rfl,by have:=hl.len hj;omega⟩
 ·rw[h.bt.len];omega
theorem Bt.asc{Q:List (List Inc)}{sq:Int}(h:Bt Q I sq): ∀q∈Q,∀y,q.getLast? =some y-> ∀i∈q,i.q<=y.q:=by
 intro q hq y hy i hi;obtain⟨q',rfl⟩: ∃q',q=q'++ [y]:=List.getLast?_eq_some_iff.1 hy;have:=List.pairwise_append.1 (h.qa _ hq);rcases List.mem_append.1 hi with hi|hi
 ·exact Int.le_of_lt (this.2.2 i hi y List.mem_cons_self)
 ·simp at hi
  rw[hi];exact Int.le_refl _
theorem Bt.nd{S:Sp}{Q:List (List Inc)}{sq:Int}(h:Bt Q I sq)(hl:Lay S B I):(Q.flatten.map (·.q)).Nodup:=by
 have h1:=hl.ch.sq;rw[List.map_map]at h1;have h2:=h.qs.map (·.q);rw[List.map_map]at h2;exact h2.nodup_iff.2 h1
def Inc.st(i:Inc):Int:=i.b*4294967296+i.q
theorem In.inc_st(i:In):i.inc.st=i.x.st:=rfl
theorem Bt.sorted{S:Sp}{Q:List (List Inc)}{sq:Int}(h:Bt Q I sq)(hl:Lay S B I):Q.flatten.Pairwise (fun a b=>a.st<b.st):=by
 have hid: ∀q∈Q,∀i∈q,0<=i.q∧i.q<=4294967295:=fun q hq i hi=>by
  obtain⟨j,hj,rfl⟩:=h.mem hq hi;have:=hl.ch.ids j.x (hl.mem hj);exact⟨this.1,this.2.1⟩
 refine List.pairwise_flatten.2 ⟨fun q hq=> ?_,?_⟩
 ·obtain⟨k,hk⟩:=List.mem_iff_getElem?.1 hq
  refine List.Pairwise.imp_of_mem ?_ (h.qa q hq);intro a b ha hb hab;have h1:=h.qb k q hk a ha;have h2:=h.qb k q hk b hb;unfold Inc.st;omega
 ·rw[List.pairwise_iff_getElem]
  intro i j hi hj hij a ha b hb;have h1:=h.qb i _ (List.getElem?_eq_getElem hi) a ha;have h2:=h.qb j _ (List.getElem?_eq_getElem hj) b hb;have h3:=hid _ (List.getElem_mem hi) a ha;have h4:=hid _ (List.getElem_mem hj) b hb;unfold Inc.st;omega
theorem Bt.pick{Q:List (List Inc)}{sq:Int}(h:Bt Q I sq): ∀(l:List Inc),(∀i∈l,i∈Q.flatten) -> ∃C:List In,l=C.map In.inc∧∀c∈C,c∈I
 | [],_=>⟨[],rfl,by simp⟩
 |i::l,hl=>by
  obtain⟨C,rfl,hC⟩:=Bt.pick h l (fun j hj=>hl j (List.mem_cons_of_mem _ hj));obtain⟨j,hj,e⟩:=List.mem_map.1 (h.qs.mem_iff.1 (hl i List.mem_cons_self));refine⟨j::C,by rw[List.map_cons,e],fun c hc=> ?_⟩;rcases List.mem_cons.1 hc with rfl|hc
  ·exact hj
  ·exact hC c hc
theorem xY{α β:Type}(f:α->β){l:List α}(h:(l.map f).Nodup):l.Nodup:=by
 rw[List.nodup_iff_pairwise_ne,List.pairwise_map]at h;rw[List.nodup_iff_pairwise_ne];exact h.imp fun h e=>h (by rw[e])
theorem jt{α β:Type}{f:α->β}{l:List α}(h:(l.map f).Nodup){a b:α}(ha:a∈l)(hb:b∈l)(he:f a=f b):a=b:=by
 induction l with
 |nil=>cases ha
 |cons c l ih=>
  simp only[List.map_cons,List.nodup_cons,List.mem_map,not_exists,not_and]at h;rcases List.mem_cons.1 ha with ha1|ha1
  ·rcases List.mem_cons.1 hb with hb1|hb1
   ·rw[ha1,hb1]
   ·subst ha1
    exact absurd he.symm (h.1 b hb1)
  ·rcases List.mem_cons.1 hb with hb1|hb1
   ·subst hb1
    exact absurd he (h.1 a ha1)
   ·exact ih h.2 ha1 hb1
theorem Bt.split{S:Sp}{Q:List (List Inc)}{sq:Int}(h:Bt Q I sq)(hl:Lay S B I){l:List Inc}(hin: ∀i∈l,i∈Q.flatten)(hp:vJ Q.flatten (l.map (·.q))=true):
 ∃C rest:List In,l=C.map In.inc∧I.Perm (C++rest)∧(∀i∈rest,∀c∈C,c.x.st<i.x.st)∧(∀i∈rest,∀c∈C,i.x.q≠c.x.q):=by
 obtain⟨C,hC,hCI⟩:=h.pick l hin;obtain⟨h1,h2,h3⟩:=(qp _ _).1 hp;have hCq:l.map (·.q)=C.map (·.x.q):=by rw[hC,List.map_map];rfl
 rw[hCq]at h1 h2 h3
 have hIq:(I.map (·.x.q)).Nodup:=by
  have:=hl.ch.sq;rw[List.map_map]at this;exact this
 have hmem: ∀i,i∈I->(i∈C↔i.x.q∈C.map (·.x.q)):=fun i hi=>by
  constructor
  ·exact fun hc=>List.mem_map_of_mem hc
  ·intro hc
   obtain⟨c,hc,e⟩:=List.mem_map.1 hc;have:=jt (f:=fun j:In=>j.x.q) hIq (hCI c hc) hi e;rw[<-this];exact hc
 have hrq: ∀i∈I.filter (fun i=>decide (i.x.q∉C.map (·.x.q))),∀c∈C,i.x.q≠c.x.q:=fun i hi c hc e=>by
  have:=(List.mem_filter.1 hi).2;simp only[decide_eq_true_eq]at this;exact this (by rw[e];exact List.mem_map_of_mem (f:=fun j:In=>j.x.q) hc)
 refine⟨C,I.filter (fun i=>decide (i.x.q∉C.map (·.x.q))),hC,?_,?_,hrq⟩
 ·refine(List.perm_ext_iff_of_nodup (xY _ hIq) ?_).2 (fun i=> ?_)
  ·refine List.nodup_append.2 ⟨xY _ h3,(xY _ hIq).filter _,?_⟩
   intro a ha b hb e;subst e;exact hrq a hb a ha rfl
  ·simp only[List.mem_append,List.mem_filter,decide_eq_true_eq]
   constructor
   ·intro hi
    by_cases hc:i.x.q∈C.map (·.x.q)
    ·exact .inl ((hmem i hi).2 hc)
    ·exact .inr ⟨hi,hc⟩
   ·rintro(hc|hc)
    ·exact hCI i hc
    ·exact hc.1
 ·intro i hi c hc
  have hiI:=(List.mem_filter.1 hi).1;have hs:=h.sorted hl;have hnd:=h.nd hl;obtain⟨n,hn⟩: ∃n,(C.map (·.x.q)).length=n:=⟨_,rfl⟩;rw[hn]at h2;rw[<-List.take_append_drop n Q.flatten]at hs;have hx:=(List.pairwise_append.1 hs).2.2;have hcF:c.inc∈Q.flatten:=h.qs.mem_iff.2 (List.mem_map_of_mem (hCI c hc));have hiF:i.inc∈Q.flatten:=h.qs.mem_iff.2 (List.mem_map_of_mem hiI);have hsub: ∀a,a∈Q.flatten.take n->a∈Q.flatten:=fun a ha=>List.mem_of_mem_take ha
  have hct:c.inc∈Q.flatten.take n:=by
   have:c.x.q∈(Q.flatten.take n).map (·.q):=h2.mem_iff.2 (List.mem_map_of_mem (f:=fun j:In=>j.x.q) hc);obtain⟨a,ha,e⟩:=List.mem_map.1 this;have:=jt (f:=fun j:Inc=>j.q) hnd (hsub a ha) hcF e;rw[<-this];exact ha
  have hit:i.inc∉Q.flatten.take n:=fun ht=>by
   have:i.x.q∈C.map (·.x.q):=h2.mem_iff.1 (List.mem_map_of_mem (f:=fun j:Inc=>j.q) ht);obtain⟨c',hc',e⟩:=List.mem_map.1 this;exact hrq i hi c' hc' e.symm
  have hid:i.inc∈Q.flatten.drop n:=by
   have:i.inc∈Q.flatten.take n++Q.flatten.drop n:=by rw[List.take_append_drop];exact hiF
   rcases List.mem_append.1 this with h'|h'
   ·exact absurd h' hit
   ·exact h'
  have:=hx _ hct _ hid;rw[In.inc_st,In.inc_st]at this;exact this
end
def zki(w:World)(P:Hpl)(nb:Nat)(l:List Inc)(r:Ending)(w':World):Prop:=
 ∃(i:Inc) (e:Int),r= .returned (.tuple #[.agg i.a,.int .i64 e])∧Ext w w'∧(e≠0∨e=0∧vJ P.Q.flatten (l.map (·.q))=true∧
  ∃(t:Nat) (rr:Nat×Int×Int×Int),P.C.l[nb]? =some rr∧rr.2.2.2=(t:Int)∧(i=⟨P.sq,t,-1,-1,0⟩∨∃q,P.Q[t]? =some q∧q.getLast? =some i∧∀x∈l,x.q≠i.q))
theorem jc{Q:Ending->World->Prop}{a:Act}{W:World}{g1:Nat}{t5:Value}{i:Inc}(hd:a.defers= [])(h4:a.tmps[4]?.getD undef= .pointer (some ⟨g1,0,none⟩))(h5:a.tmps[5]?.getD undef=t5)
 (k1:Blk W g1 144 i.a) (hQ:Q (.returned (.tuple #[.agg i.a,t5])) W):bodyPost Tryz.prog Tryz.f107 Q Exit.ret a W:=by
 have c1:=k1.cell;exact bodyPost_ret (v:= .tuple #[.agg i.a,t5]) (by simp[results,Tryz.results107,go_sem,h4,h5,c1,Inc.a]) hd hQ
theorem zph(i:Inc)(W:World):(binOp .neq 144 (.agg #[.int .i64 i.q,.int .i64 i.b,.int .i64 i.f,.int .i64 i.l,.int .i64 i.w]) (.agg #[.int .i64 i.q,.int .i64 i.b,.int .i64 i.f,.int .i64 i.l,.int .i64 i.w])).run Tryz.prog W= .ok (.bool false) W:=by
 have ht:Tryz.prog.underlying 144=some (.struct (Tryz.prog.fieldsOf 144)):=by kernel_rfl
 have hp:Tryz.prog.stoodInHeld 144=false:=by kernel_rfl
 rw[run_neq_struct,run_equalIn_agg _ 9999 _ _ _ ht hp];clear ht hp;have hi:Tryz.prog.underlying 3=some (.int .i64):=by kernel_rfl
 simp[go_sem,Program.fieldsOf,Tryz.underlying144,Op.eqFields,part,hi]
theorem zkj:Tryz.prog.eqGuardType Tryz.prog.depth 144=false:=by kernel_rfl
theorem zc6{C:Cfg}(h:C.Ok){k:Nat}{r:Nat×Int×Int×Int}(hr:C.l[k]? =some r): ∃t:Nat,r.2.2.2=(t:Int)∧t<C.l.length:=by
 have hk:=(List.getElem?_eq_some_iff.1 hr).1;obtain⟨_,_,_,_,_,h1,h2⟩:=h.good.2.2.2.1 k r hr;by_cases hl:k+1=C.l.length
 ·exact⟨k,(h1 hl).2,hk⟩
 ·have:=h2 hl
  exact⟨r.2.2.2.toNat,by omega,by omega⟩
theorem zhh(P:Hpl)(M:Hmm)(nb d:Nat)(D:Option Addr)(l:List Inc)(w:World)(h:HO w 0 P M)(hg:P.Gd)(hl:Rd w D l.length 5 (zQ l))(hl1:1<=l.length)(hl2:l.length<=1000)
 (hin: ∀i∈l,i.b=nb∧P.Q.flatten.find? (fun j=>decide (j.q=i.q))=some i) (hnb:nb<P.Q.length):
 Calls Tryz.prog 107 #[.agg (ze P M),.slice D l.length d] w (zki w P nb l):=by
 have Hg:=Lib.hid hg;have Hin:=Lib.hid hin;clear hg hin;go_enter Tryz.func107,Tryz.ntmps107;go_upto_region 1 with fail;refine za0 (fun W k2 k4 hE0=> ?_);obtain⟨b2,hb2⟩: ∃b,w.heap.size=b:=⟨_,rfl⟩;rw[hb2]at k2 k4|-;have Hb2:=Lib.hid hb2;clear hb2;go_wp2_with fail;go_loopw [6,20] (fun s i wr=> ∃(j:Nat) (D6:Option Addr) (d6:Nat),j<=l.length∧i= .int .i64 j∧s= .slice D6 j d6∧wr.ownsRow W.heap.size 3 1 (.slice D6 j d6) j (yb ((l.take j).map (·.q)))∧Ext W wr) (fun _ i _=>l.length-(intOf i).toNat);case atStart=>exact⟨0,none,0,by omega,rfl,rfl,zP _ _ _ _,Ext.refl _⟩
 case round=>
  obtain⟨j,D6,d6,hj,rfl,rfl,hown,hE⟩:=hrel;have k2r:=k2.ext hE;have k4r:=k4.ext hE;by_cases hjl:j<l.length
  ·have hjec:decide ((j:Int)<l.length)=true:=by simp;omega
   have hjec':decide (j<l.length)=true:=by simp;omega
   have hjI:(j:Int)<l.length:=by omega
   obtain⟨i,hi⟩: ∃i,l[j]? =some i:=⟨_,List.getElem?_eq_getElem hjl⟩;obtain⟨bD,oD,he,d0,d1,d2,d3,d4⟩:=xo (hl.ext (hE0.trans hE)) hi;subst he;have lD:=zh d0;have Hi:=Lib.hid hi;have hii:=Hin.out i (List.mem_of_getElem? hi);have Hf:=Lib.hid hii.2;have Hbi:=Lib.hid hii.1;clear hi hii;go_upto_region 5 with fail;refine yN (fun W8 k8 hE8=> ?_);obtain⟨b8,hb8⟩: ∃b,wr.heap.size=b:=⟨_,rfl⟩;rw[hb8]at k8|-;have r6:W8.cell? ⟨b2,6,none⟩=some (.slice M.A P.Q.length M.c):=(k2r.ext hE8).cell 6;have l2:=(k2r.ext hE8).lt;have c8:=k8.cell;have l8:=k8.lt;clear hb8;have hFi:=zfi M.A M.c M.vs P.Q i.q W8 (h.bo.ext ((hE0.trans hE).trans hE8)) Hg.out.sm.q1 Hg.out.sm.q2;rw[Hf.out]at hFi;go_wp2_with fail;go_at_call 97;refine hFi.mono ?_;rintro e w1 ⟨rfl,hE9⟩;clear r6 l2 c8 l8 hFi d0 d1 d2 d3 d4 lD;simp only[zbs];go_upto_region 6 with fail;refine yN (fun W9 k9 hE10=> ?_);have hlt9:=k8.ext hE9|>.lt;obtain⟨b9,hb9⟩: ∃b,w1.heap.size=b:=⟨_,rfl⟩;rw[hb9]at k9 hlt9|-;clear hb9;have hEv:=((hE.trans hE8).trans hE9).trans hE10;have k8v:=(k8.ext hE9).ext hE10;obtain⟨i0,hi0⟩: ∃i0,l[0]? =some i0:=⟨_,List.getElem?_eq_getElem (by omega)⟩;obtain⟨bD',oD',he',_,z1,_,_,_⟩:=xo (hl.ext (hE0.trans hEv)) hi0;simp only[Option.some.injEq,Addr.mk.injEq,and_true]at he';obtain⟨rfl,rfl⟩:=he';rw[(Hin.out i0 (List.mem_of_getElem? hi0)).1]at z1;simp only[Nat.zero_mul,Nat.add_zero,Nat.zero_add]at z1;have lz:=zh z1;clear hi0;have hl1I:(0:Int)<l.length:=by omega
   have hl1N:0<l.length:=by omega
   have hl1L:l≠ []:=fun h0=>by rw[h0]at hl1N;simp at hl1N
   have c8:=k8v.cell;have l8:=k8v.lt;have c9:=k9.cell;have l9:=k9.lt;have hbi:=Hbi.out;clear Hbi;obtain⟨iq,ib,ff,il,iw⟩:=i;simp only at hbi k9 k8v c8 c9|-;subst hbi;have hne:=fun W=>zph ⟨iq,(nb:Int),ff,il,iw⟩ W
   simp only at hne;have hgd:=zkj;refine jRE [(true,0),(true,1),(true,2),(true,3),(true,4),(true,5),(true,6),(true,7),(true,8),(true,9),(true,10),(true,11),(true,12),(true,13),(true,14),(true,15)] Tryz.mixed fun hx=> ?_
   repeat(first
    |refine jLE hx ?_
    |refine jLS ?_
    |(refine yo hx (fun K hK=> ?_);go_simp;(first|refine hK _ _ jX ?_|refine hK undef _ jX ?_);clear hK hx;intro hx;try refine jq ?_))
   refine zH ?_;have hE3:Ext W W9.drew:=hEv.drew;have hown3:=zm hown ((((Ext.refl wr).trans hE8).trans hE9).trans hE10).drew;have hsz:=hE3.size_le;have k8d:=k8v.drew;clear c9 l9 k9 hne hgd z1 lz hx hl1L c8 l8 k8v hEv;generalize W9.drew=Wd at*;have c8:=k8d.cell;have l8:=k8d.lt;go_wp2_with(first|(at_builtin;refine zJ rfl Tryz.elI _ _ rfl W.heap.size _ _ _ rfl (z8 hown3 _) _ 1 1 _ rfl (xm _ _ _) (by simp[Value.oneCell']) (by omega) (by omega) (by(first|omega|(simp;done)|(simp;omega))) ?_;intro A2 a2 w2 hown4 hg2 hat2;have hE10:Ext W w2:=yy (Ext.alloc hE3 _) hg2 (z8 hown3 _) (by omega)));go_roundw;case rel=>exact⟨j+1,A2,a2,by omega,by go_num,by simp,by rw[List.take_add_one,Hi.out];simpa[yb]using hown4,hE10⟩
   case measure=>simp[intOf];omega
  ·have hjec:decide ((j:Int)<l.length)=false:=by simp;omega
   have hjec':decide (j<l.length)=false:=by simp;omega
   have hje:j=l.length:=by omega
   subst hje;rw[List.take_length]at hown;have hE1:=hE0.trans hE;have hlz:((l.length:Int)==0)=false:=by rw[beq_eq_false_iff_ne];omega
   have hlz':(l.length==0)=false:=by rw[beq_eq_false_iff_ne];omega
   have r6:wr.cell? ⟨b2,6,none⟩=some (.slice M.A P.Q.length M.c):=k2r.cell 6;have l2:=k2r.lt;have hP:=zfx M.A D6 M.c d6 P.Q P.Q.flatten (l.map (·.q)) wr (h.bo.ext hE1).rd Hg.out.sm.q1 rfl Hg.out.fl (by have:=Rd.of_own hown;simpa using this) (by simpa using hl2);rw[List.length_map]at hP;go_wp2_with fail;go_at_call 116;refine hP.mono ?_;rintro e w1 ⟨rfl,hE2⟩;clear r6 l2 hP;replace hE1:=hE1.trans hE2;replace k2r:=k2r.ext hE2;replace k4r:=k4r.ext hE2;obtain⟨wa,hwa⟩: ∃wa,wa=w1:=⟨_,rfl⟩;subst hwa;obtain⟨pb,hpb⟩: ∃pb,vJ P.Q.flatten (l.map (·.q))=pb:=⟨_,rfl⟩;rw[hpb];have Hpb:=Lib.hid hpb;clear hpb;have hszA:=hE1.size_le;cases pb with
   |false=>
    have c4:=k4r.cell;have l4:=k4r.lt;have f4:=k4r.froz;have hb2:=Hb2.out;go_wp2_with fail;exact jc (i:=⟨0,0,0,0,0⟩) rfl rfl rfl (((((k4r.set_ 0 _).set_ 1 _).set_ 2 _).set_ 3 _).set_ 4 _) ⟨_,_,rfl,Ext.setCell (Ext.setCell (Ext.setCell (Ext.setCell (Ext.setCell hE1 (by simp only;omega) _) (by simp only;omega) _) (by simp only;omega) _) (by simp only;omega) _) (by simp only;omega) _,.inl (by decide)⟩
   |true=>
    have hl1N:0<l.length:=by omega
    have hl1I:(0:Int)<l.length:=by omega
    have hl1L:l≠ []:=fun h0=>by rw[h0]at hl1N;simp at hl1N
    obtain⟨i0,hi0⟩: ∃i0,l[0]? =some i0:=⟨_,List.getElem?_eq_getElem hl1N⟩;obtain⟨bD,oD,heD,_,z1,_,_,_⟩:=xo (hl.ext hE1) hi0;subst heD;rw[(Hin.out i0 (List.mem_of_getElem? hi0)).1]at z1;simp only[Nat.zero_mul,Nat.add_zero,Nat.zero_add]at z1;have lz:=zh z1;clear hi0;have hnl:nb<P.C.l.length:=by have:=Hg.out.ql;omega
    have hnlI:(nb:Int)<P.C.l.length:=by omega
    obtain⟨rr,hrr⟩: ∃rr,P.C.l[nb]? =some rr:=⟨_,List.getElem?_eq_getElem hnl⟩;obtain⟨t,ht,htl⟩:=zc6 Hg.out.ok hrr;obtain⟨bR,oR,heR,_,_,_,y3⟩:=qN (Rd.of_own (zm h.ru hE1)) hrr hnl;rw[ht]at y3;have ly:=zh y3;have r1:wa.cell? ⟨b2,1,none⟩=some (.slice M.Ac P.C.l.length M.cc):=k2r.cell 1;have l2:=k2r.lt;rw[heR]at r1;have Hrr:=Lib.hid hrr;have Ht:=Lib.hid ht;have HeR:=Lib.hid heR;clear hrr ht heR;go_upto_region 12 with fail;refine jRE [(true,0),(true,1),(true,2),(true,3),(true,4),(true,5),(true,6),(true,7),(true,8),(true,9),(true,10)] Tryz.mixed fun hx=> ?_
    repeat(first
     |refine jLE hx ?_
     |refine jLS ?_
     |(refine yo hx (fun K hK=> ?_);go_simp;(first|refine hK _ _ jX ?_|refine hK undef _ jX ?_);clear hK hx;intro hx;try refine jq ?_))
    refine zH ?_;have hEd:Ext w wa.drew:=hE1.drew;have k2d:=k2r.drew;have k4d:=k4r.drew;clear r1 l2 y3 ly z1 lz hx k2r k4r hE1;generalize wa.drew=wd at*;have r0:wd.cell? ⟨b2,0,none⟩=some (.string P.C.s):=k2d.cell 0;have r1:wd.cell? ⟨b2,1,none⟩=some (.slice M.Ac P.C.l.length M.cc):=k2d.cell 1;have r2:wd.cell? ⟨b2,2,none⟩=some (.int .i64 P.C.f):=k2d.cell 2;have r5:wd.cell? ⟨b2,5,none⟩=some (.slice (some ⟨M.gF,0,none⟩) P.S.fs.length M.cF):=k2d.cell 5;have l2:=k2d.lt;have hok:=Lib.hid (show P.C.Ok from Hg.out.ok);go_wp2_with fail;go_at_call 86;refine(zix M.Ac M.cc t P.S.fs.length P.C _ (Rd.of_own (zm h.ru hEd)) hok.out htl Hg.out.sm.f1 Hg.out.sm.f2).mono ?_;rintro e w3 ⟨⟨z,rfl⟩,hE3⟩;clear r0 r1 r2 r5 l2 hok;replace hEd:=hEd.trans hE3;replace k2d:=k2d.ext hE3;replace k4d:=k4d.ext hE3;obtain⟨q,hq⟩: ∃q,P.Q[t]? =some q:=⟨_,List.getElem?_eq_getElem (by have:=Hg.out.ql;omega)⟩;have hY:=qM M.A M.c t M.vs P.Q q w3 (h.bo.ext hEd) hq (Hg.out.sm.q2 q (List.mem_of_getElem? hq))
    obtain⟨y,ok,hyo,hok⟩: ∃(y:Inc) (ok:Bool),zbs q.getLast? = .tuple #[.agg #[.int .i64 y.q,.int .i64 y.b,.int .i64 y.f,.int .i64 y.l,.int .i64 y.w],.bool ok]∧(ok=true->q.getLast? =some y):=by
     cases q.getLast? with
     |none=>exact⟨⟨0,0,0,0,0⟩,false,rfl,by simp⟩
     |some y=>exact⟨y,true,rfl,by simp⟩
    rw[hyo]at hY;have Hq:=Lib.hid hq;have Hok:=Lib.hid hok;clear hq hyo hok;have r6:w3.cell? ⟨b2,6,none⟩=some (.slice M.A P.Q.length M.c):=k2d.cell 6;have l2:=k2d.lt;go_wp2_with fail;go_at_call 87;refine hY.mono ?_;rintro e w4 ⟨rfl,hE4⟩;clear r6 l2 hY;replace hEd:=hEd.trans hE4;replace k2d:=k2d.ext hE4;replace k4d:=k4d.ext hE4;go_upto_region 15 with fail;refine yN (fun W5 k14 hE5=> ?_);have hlt14:=k4d.lt;obtain⟨b14,hb14⟩: ∃b,w4.heap.size=b:=⟨_,rfl⟩;rw[hb14]at k14 hlt14|-;clear hb14;replace hEd:=hEd.trans hE5;replace k2d:=k2d.ext hE5;replace k4d:=k4d.ext hE5;go_wp2_with fail;go_loopw [15,96] (fun o i wr=> ∃(j:Nat) (ob:Bool),j<=l.length∧i= .int .i64 j∧o= .bool ob∧(ob=true->ok=true∧∀x∈l.take j,x.q≠y.q)∧Ext W5 wr) (fun _ i _=>l.length-(intOf i).toNat);case atStart=>exact⟨0,ok,by omega,rfl,rfl,fun h0=>⟨h0,by simp⟩,Ext.refl _⟩
    case round=>
     obtain⟨j,ob,hj,rfl,rfl,hob,hE⟩:=hrel;have Hob:=Lib.hid hob;clear hob;by_cases hjl:j<l.length
     ·have hjec:decide ((j:Int)<l.length)=true:=by simp;omega
      have hjec':decide (j<l.length)=true:=by simp;omega
      have hjI:(j:Int)<l.length:=by omega
      obtain⟨x,hx⟩: ∃x,l[j]? =some x:=⟨_,List.getElem?_eq_getElem hjl⟩;obtain⟨bD',oD',he,d0,d1,d2,d3,d4⟩:=xo (hl.ext (hEd.trans hE)) hx;simp only[Option.some.injEq,Addr.mk.injEq,and_true]at he;obtain⟨rfl,rfl⟩:=he;have lD:=zh d0;have Hx:=Lib.hid hx;clear hx;have k14r:=k14.ext hE;go_upto_region 18 with fail;refine yN (fun W8 k17 hE8=> ?_);have k14s:=k14r.ext hE8;obtain⟨b17,hb17⟩: ∃b,wr.heap.size=b:=⟨_,rfl⟩;rw[hb17]at k17|-;clear hb17 d0 d1 d2 d3 d4 lD k14r;have c14:=k14s.cell;have l14:=k14s.lt;have c17:=k17.cell;have l17:=k17.lt;cases ob with
      |false=>
       go_wp2_with fail;go_roundw;case rel=>exact⟨j+1,false,by omega,by go_num,rfl,by simp,hE.trans hE8⟩
       case measure=>simp[intOf];omega
      |true=>
       by_cases hxy:x.q=y.q
       ·have e3:(x.q !=y.q)=false:=by simpa using hxy
        have e3':(x.q==y.q)=true:=by simpa using hxy
        have e3'':decide (x.q=y.q)=true:=by simpa using hxy
        have Hxy:=Lib.hid hxy;clear hxy;go_wp2_with fail;go_roundw;case rel=>exact⟨j+1,false,by omega,by go_num,rfl,by simp,hE.trans hE8⟩
        case measure=>simp[intOf];omega
       ·have e3:(x.q !=y.q)=true:=by simpa using hxy
        have e3':(x.q==y.q)=false:=by simpa using hxy
        have e3'':decide (x.q=y.q)=false:=by simpa using hxy
        have Hxy:=Lib.hid hxy;clear hxy;go_wp2_with fail;go_roundw
        case rel=>exact⟨j+1,true,by omega,by go_num,rfl,fun _=>⟨(Hob.out rfl).1,fun x' hx'=>by
         rw[List.take_add_one,Hx.out]at hx';rcases List.mem_append.1 hx' with hm|hm
         ·exact(Hob.out rfl).2 x' hm
         ·simp at hm
          subst hm;exact Hxy.out⟩,hE.trans hE8⟩
        case measure=>simp[intOf];omega
     ·have hjec:decide ((j:Int)<l.length)=false:=by simp;omega
      have hjec':decide (j<l.length)=false:=by simp;omega
      have hje:j=l.length:=by omega
      subst hje;have k2e:=k2d.ext hE;have k4e:=k4d.ext hE;have k14e:=k14.ext hE;have hEe:=hEd.trans hE;have hszw:=hEe.size_le;have hb2:=Hb2.out;have hsq:wr.cell? ⟨b2,7,none⟩=some (.int .i64 P.sq):=k2e.cell 7;have r3:wr.cell? ⟨b2,3,none⟩=some (.int .i64 P.S.sh):=k2e.cell 3;have r4:wr.cell? ⟨b2,4,none⟩=some (.slice (some ⟨M.gW,0,none⟩) P.S.ws.length M.cW):=k2e.cell 4;have r5:wr.cell? ⟨b2,5,none⟩=some (.slice (some ⟨M.gF,0,none⟩) P.S.fs.length M.cF):=k2e.cell 5;have l2:=k2e.lt;have c14:=k14e.cell;have l14:=k14e.lt;cases ob with
      |false=>
       have c4:=k4e.cell;have l4:=k4e.lt;have f4:=k4e.froz;go_wp2_with fail;exact jc (i:=⟨P.sq,(t:Int),-1,-1,0⟩) rfl rfl rfl (((((k4e.set_ 0 _).set_ 1 _).set_ 2 _).set_ 3 _).set_ 4 _) ⟨_,_,rfl,Ext.setCell (Ext.setCell (Ext.setCell (Ext.setCell (Ext.setCell hEe (by simp only;omega) _) (by simp only;omega) _) (by simp only;omega) _) (by simp only;omega) _) (by simp only;omega) _,.inr ⟨rfl,Hpb.out,t,rr,Hrr.out,Ht.out,.inl rfl⟩⟩
      |true=>
       go_wp2_with fail;go_at_call 88;refine(zfn (some ⟨M.gW,0,none⟩) (some ⟨M.gF,0,none⟩) M.cW M.cF P.S y z wr Hg.out.sh).mono ?_;rintro e w9 ⟨⟨zb,rfl⟩,hE9⟩;clear hsq r3 r4 r5 l2 c14 l14;replace hEe:=hEe.trans hE9;replace k2e:=k2e.ext hE9;replace k4e:=k4e.ext hE9;replace k14e:=k14e.ext hE9;have hsq:w9.cell? ⟨b2,7,none⟩=some (.int .i64 P.sq):=k2e.cell 7;have l2:=k2e.lt;have c14:=k14e.cell;have l14:=k14e.lt;have c4:=k4e.cell;have l4:=k4e.lt;have f4:=k4e.froz;have hszA:=hEe.size_le;cases zb with
       |false=>
        go_wp2_with fail;exact jc (i:=⟨P.sq,(t:Int),-1,-1,0⟩) rfl rfl rfl (((((k4e.set_ 0 _).set_ 1 _).set_ 2 _).set_ 3 _).set_ 4 _) ⟨_,_,rfl,Ext.setCell (Ext.setCell (Ext.setCell (Ext.setCell (Ext.setCell hEe (by simp only;omega) _) (by simp only;omega) _) (by simp only;omega) _) (by simp only;omega) _) (by simp only;omega) _,.inr ⟨rfl,Hpb.out,t,rr,Hrr.out,Ht.out,.inl rfl⟩⟩
       |true=>
        have hT:=Hob.out trivial;rw[List.take_length]at hT;have HT:=Lib.hid hT;clear hT;go_wp2_with fail;exact jc (i:=y) rfl rfl rfl (((((k4e.set_ 0 _).set_ 1 _).set_ 2 _).set_ 3 _).set_ 4 _) ⟨_,_,rfl,Ext.setCell (Ext.setCell (Ext.setCell (Ext.setCell (Ext.setCell hEe (by simp only;omega) _) (by simp only;omega) _) (by simp only;omega) _) (by simp only;omega) _) (by simp only;omega) _,.inr ⟨rfl,Hpb.out,t,rr,Hrr.out,Ht.out,.inr ⟨q,Hq.out,Hok.out HT.out.1,HT.out.2⟩⟩⟩
end Go.Proofs.YtopcdfbplknmlaaGreat
