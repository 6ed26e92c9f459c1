/- Part of the proof of the claim: walks and plain laws; each theorem states its own conditions. -/
import Derived.Test.YtopcdfbplknmlaaGreatL
import Derived.Test.YtopcdfbplknmlaaGreatG2
set_option linter.all false
set_option maxHeartbeats 4000000
set_option maxRecDepth 100000
namespace Go.Proofs.YtopcdfbplknmlaaGreat
open Go.RowKit Go.Draw
theorem zrz(n:Nat):(madeCells (Value.agg #[.int .i64 0,.int .i64 0,.int .i64 0]).cells (n*3)).toList=List.replicate (n*3) (Value.int .i64 0):=by
 apply List.ext_getElem
 ·simp[madeCells]
 ·intro i h1 h2
  have hm:i%3=0∨i%3=1∨i%3=2:=by omega
  simp only[madeCells,Value.cells];rcases hm with h|h|h<;>simp[h]
theorem zot(n:Nat)(hn:n<=1000000)(w:World):
 (Instr.makeSlice 27 (.int .i64 (n:Int)) (.int .i64 (n:Int))).run Tryz.prog w= .ok (.slice (some ⟨w.heap.size,0,none⟩) n n) (w.alloc (.cells (List.replicate (n*3) (Value.int .i64 0)).toArray 118)):=by
 obtain⟨i,hi,hz,hsize,hbytes⟩:=info_parts Tryz.elF.ex
 have hb':(i.bytes:Int)*(n:Int)<=281474976710656:=by
  rw[hbytes];omega
 have hr:=run_make (P:=Tryz.prog) w 27 118 i _ Tryz.elF.ht hi hz .i64 .i64 n n (by omega) (Int.le_refl _) hb' (by omega);simp only[Int.toNat_natCast,hsize]at hr;rw[hr,show madeCells (Value.agg #[.int .i64 0,.int .i64 0,.int .i64 0]).cells (n*3)=(List.replicate (n*3) (Value.int .i64 0)).toArray from Array.ext' (by rw[zrz])]
theorem yq{N:Nat}{S:List Nat}{w:World}{cs:Array Value}{e:TypeId}{n size:Nat}(_:Bel N S w (w.alloc (.cells cs e)))(hn:n<=1000000)(hc:cs.size=n*size):(w.alloc (.cells cs e)).ownsRow w.heap.size e size (.slice (some ⟨w.heap.size,0,none⟩) n n) n cs.toList:=by
 have:=qJ (w:=w) (cs:=cs.toList) (e:=e) (size:=size) (n:=n) rfl (Nat.le_refl _) hn (by simpa using hc);simpa using this
theorem yj{N:Nat}{S:List Nat}{w:World}{cs:Array Value}{e:TypeId}{n size:Nat}(_:Bel N S w.drew (w.drew.alloc (.cells cs e)))(hn:n<=1000000)(hc:cs.size=n*size):(w.alloc (.cells cs e)).ownsRow w.heap.size e size (.slice (some ⟨w.heap.size,0,none⟩) n n) n cs.toList:=yq (w:=w) (N:=w.heap.size) (S:= []) ((Bel.refl _ _ _).alloc _) hn hc
theorem za6{w1 wx:World}{b1 base o g n size c:Nat}{e:TypeId}{xs:List Value}(h:w1.ownsRow b1 e size (.slice (some ⟨g,0,none⟩) n c) n xs)(e1:But [o] w1 wx)(h1:base<=b1)(ho:g≠o):wx.ownsRow base e size (.slice (some ⟨g,0,none⟩) n c) n xs:=
 zu (zo h e1 (fun q hq hm=>by simp only[Value.ownBlock,Option.some.injEq]at hq;exact ho (hq.trans (List.mem_singleton.1 hm)))) h1
theorem Bel.both{N:Nat}{S:List Nat}{a b:World}(h:Bel N S a b)(hN:N<=a.heap.size){o o':Obj}:Bel N S (a.alloc o) (b.alloc o'):=by
 have hb:=h.size;refine⟨h.os,h.tape,h.output,by simpa using h.size,fun _ k hk hs=> ?_⟩;rw[RowKit.Below.heap_alloc _ _ _ (by omega),RowKit.Below.heap_alloc _ _ _ (by omega)];exact h.block hN k hk hs
theorem yr(w:World)(o:Obj):(w.alloc o).heap.size=w.heap.size+1:=by simp
theorem zV{W wx:World}(h:Bel W.heap.size [] W.drew wx):Ext W wx:=⟨h.os,h.tape,h.output,h.size,fun k hk=>h.block (Nat.le_refl _) k hk (by simp)⟩
theorem zI{N:Nat}{S:List Nat}{w:World}{cs:Array Value}{t:TypeId}(_:Bel N S w (w.alloc (.cells cs t))):Blk (w.alloc (.cells cs t)) w.heap.size t cs:=Blk.new rfl
theorem zE{N:Nat}{S:List Nat}{w:World}{cs:Array Value}{t:TypeId}(_:Bel N S w.drew (w.alloc (.cells cs t)).drew):Blk (w.alloc (.cells cs t)).drew w.heap.size t cs:=Blk.drew (Blk.new rfl)
def zbk(n:Nat):List Int:=List.replicate n 0
def jL(n k:Nat):List Fr:=List.replicate k qS++List.replicate (n-k) ⟨0,0,0⟩
theorem zls{n k:Nat}(h:k<=n):(jL n k).length=n:=by simp[jL];omega
theorem zlt{n k:Nat}(h:k<n):(jL n k).set k qS=jL n (k+1):=by
 unfold jL;rw[List.set_append_right _ _ (by simp)];simp only[List.length_replicate,Nat.sub_self];rw[show n-k=(n-(k+1))+1 by omega,List.replicate_succ,List.set_cons_zero,List.replicate_succ',List.append_assoc];rfl
theorem zlu(n:Nat):frs (List.replicate n ⟨0,0,0⟩)=List.replicate (n*3) (Value.int .i64 0):=by
 induction n with
 |zero=>rfl
 |succ n ih=>
  rw[List.replicate_succ,frs,ih,show(n+1)*3=n*3+1+1+1 by omega];simp only[List.replicate_succ]
def xD(sh n:Nat):Sp:=⟨sh,zbk (n*2^sh),List.replicate n qS⟩
theorem zjs{sh n:Nat}(h1:3<=sh∧sh<=8)(h2:2<=n∧n<=64):Chs (xD sh n) []:=by
 refine⟨h1,by simpa[xD]using h2,by simp[xD,zbk],by simp,by simp,by simp,by simp[used],?_,?_⟩
 ·intro f hf _
  simp only[xD,List.length_replicate]at hf;simp[xD,List.getElem?_replicate,hf]
 ·intro f hf _ j hj
  simp only[xD,List.length_replicate]at hf hj;simp only[xD,zbk,List.getElem?_replicate];rw[if_pos];have:(f+1)*2^sh<=n*2^sh:=Nat.mul_le_mul_right _ (by omega);rw[Nat.succ_mul]at this;omega
theorem zou{Q:Ending->World->Prop}{a:Act}{W:World}{g1:Nat}{u0 u1 u2 t9:Value}(hd:a.defers= [])(h6:a.tmps[4]?.getD undef= .pointer (some ⟨g1,0,none⟩))(h9:a.tmps[5]?.getD undef=t9)
 (k1:Blk W g1 29 #[u0,u1,u2]) (hQ:Q (.returned (.tuple #[.agg #[u0,u1,u2],t9])) W):
 bodyPost Tryz.prog Tryz.f27 Q Exit.ret a W:=by
 have c1:=k1.cell;exact bodyPost_ret (v:= .tuple #[.agg #[u0,u1,u2],t9]) (by simp[results,Tryz.results27,go_sem,h6,h9,c1]) hd hQ
theorem zlv{W w1 w2 wx:World}{b0 b1 b2 o gW gF m n sh:Nat}{cW cF:List Value}(hW:w1.ownsRow b1 67 1 (.slice (some ⟨gW,0,none⟩) m m) m cW)(hF:w2.ownsRow b2 118 3 (.slice (some ⟨gF,0,none⟩) n n) n cF)
 (k:Blk wx o 29 #[.int .i64 sh,.slice (some ⟨gW,0,none⟩) m m,.slice (some ⟨gF,0,none⟩) n n]) (e1:But [o] w1 wx) (e2:But [o] w2 wx) (h1:W.heap.size<=b1) (h2:W.heap.size<=b2) (n1:gF≠o) (n2:gW≠o) (hE:Ext W wx) (ho:W.heap.size<=o):
 ∃o' gW' gF':Nat,Value.pointer (some ⟨b0,0,none⟩)= .pointer (some ⟨b0,0,none⟩)∧Value.pointer (some ⟨o,0,none⟩)= .pointer (some ⟨o',0,none⟩)∧Blk wx o' 29 #[.int .i64 sh,.slice (some ⟨gW',0,none⟩) m m,.slice (some ⟨gF',0,none⟩) n n]∧wx.ownsRow W.heap.size 67 1 (.slice (some ⟨gW',0,none⟩) m m) m cW∧wx.ownsRow W.heap.size 118 3 (.slice (some ⟨gF',0,none⟩) n n) n cF∧Ext W wx∧W.heap.size<=o'∧gF'≠o'∧gW'≠o':=
 ⟨o,gW,gF,rfl,rfl,k,za6 hW e1 h1 n2,za6 hF e2 h2 n1,hE,ho,n1,n2⟩
theorem zov(sh n:Nat)(w:World)(hsh:3<=sh∧sh<=8)(hn:2<=n∧n<=64):Calls Tryz.prog 27 #[.int .i64 sh,.int .i64 n] w fun r w'=> ∃gW cW gF cF:Nat,r= .returned (.tuple #[.agg #[.int .i64 sh,.slice (some ⟨gW,0,none⟩) (xD sh n).ws.length cW,.slice (some ⟨gF,0,none⟩) (xD sh n).fs.length cF],.int .i64 0])∧SOw w' w.heap.size (xD sh n) gW cW gF cF∧Ext w w':=by
 obtain⟨B,hB⟩: ∃B,2^sh=B:=⟨_,rfl⟩;have hb1:=(yG hsh).1;have hb2:=(yG hsh).2;rw[hB]at hb1 hb2;have hB':(2:Int)^sh=B:=by rw[<-hB];simp
 have s1:(sh:Int).toNat=sh:=by omega
 have hnB:n*B<=64*256:=Nat.mul_le_mul hn.2 hb2;obtain⟨m,hm⟩: ∃m,n*B=m:=⟨_,rfl⟩;have hmI:(n:Int)*B=(m:Int):=by rw[<-hm,Int.natCast_mul]
 rw[hm]at hnB;obtain⟨cW,hcW⟩: ∃cW,cW=(List.replicate m (Value.int .u64 0)).toArray:=⟨_,rfl⟩;obtain⟨cF,hcF⟩: ∃cF,cF=(List.replicate (n*3) (Value.int .i64 0)).toArray:=⟨_,rfl⟩;have mW: ∀W:World,(Instr.makeSlice 26 (.int .i64 m) (.int .i64 m)).run Tryz.prog W= .ok (.slice (some ⟨W.heap.size,0,none⟩) m m) (W.alloc (.cells cW 67)):=fun W=>by rw[hcW];exact js Tryz.elW rfl m (by omega) (by omega) W
 have mF: ∀W:World,(Instr.makeSlice 27 (.int .i64 n) (.int .i64 n)).run Tryz.prog W= .ok (.slice (some ⟨W.heap.size,0,none⟩) n n) (W.alloc (.cells cF 118)):=fun W=>by rw[hcF];exact zot n (by omega) W
 have zW:cW.size=m*1:=by rw[hcW];simp
 have zF:cF.size=n*3:=by rw[hcF];simp
 have HW:=Lib.hid hcW;have HF:=Lib.hid hcF;have Hm:=Lib.hid hm;have HB:=Lib.hid hB;have d1:decide ((n:Int)<2)=false:=by(first|omega|(simp;done)|(simp;omega))
 have d1':decide (n<2)=false:=by(first|omega|(simp;done)|(simp;omega))
 have d2:decide ((64:Int)<n)=false:=by(first|omega|(simp;done)|(simp;omega))
 have d2':decide (64<n)=false:=by(first|omega|(simp;done)|(simp;omega))
 clear hcW hcF hm hB;go_enter Tryz.func27,Tryz.ntmps27;go_upto_region 3 with(first|(go_at_call 53;refine(zjl _ _ hsh).mono ?_;rintro e w1 ⟨rfl,rfl⟩));have kR:Blk (w.alloc (.cells #[.int .i64 0,.slice none 0 0,.slice none 0 0] 29)) w.heap.size 29 #[.int .i64 0,.slice none 0 0,.slice none 0 0]:=Blk.new rfl;have hE0:Ext w (w.alloc (.cells #[.int .i64 0,.slice none 0 0,.slice none 0 0] 29)):=by exact jX
 generalize hW0:w.alloc (.cells #[.int .i64 0,.slice none 0 0,.slice none 0 0] 29)=W at kR hE0|-;have hsz:w.heap.size+1<=W.heap.size:=by rw[<-hW0];simp
 clear hW0;obtain⟨b0,hb0⟩: ∃b0,w.heap.size=b0:=⟨_,rfl⟩;rw[hb0]at kR hsz|-;have Hb0:=Lib.hid hb0;clear hb0;go_cut [4,6] (fun t4 t6 wx=> ∃o gW gF:Nat,t4= .pointer (some ⟨b0,0,none⟩)∧t6= .pointer (some ⟨o,0,none⟩)∧Blk wx o 29 #[.int .i64 sh,.slice (some ⟨gW,0,none⟩) m m,.slice (some ⟨gF,0,none⟩) n n]∧wx.ownsRow W.heap.size 67 1 (.slice (some ⟨gW,0,none⟩) m m) m cW.toList∧wx.ownsRow W.heap.size 118 3 (.slice (some ⟨gF,0,none⟩) n n) n cF.toList∧Ext W wx∧W.heap.size<=o∧gF≠o∧gW≠o)
 case first=>
  refine zn (W.heap.size) [] (.take 0 (.take 1 (.take 2 (.take 3 (.take 4 (.take 6 (.alt 5 (.alt 7 (.take 8 (.alt 9 (.alt 10 .done .none) .none)) (.alt 9 (.alt 7 (.take 8 (.alt 10 .done .none)) .none) .none)) (.alt 7 (.alt 5 (.take 8 (.alt 9 (.alt 10 .done .none) .none)) (.alt 9 (.alt 5 (.take 8 (.alt 10 .done .none)) .none) .none)) (.alt 9 (.alt 5 (.alt 7 (.take 8 (.alt 10 .done .none)) .none) (.alt 7 (.alt 5 (.take 8 (.alt 10 .done .none)) .none) .none)) .none))))))))) Tryz.mixed (by kernel_rfl) ?_;intro hx;iterate 6 (first|refine jTN hx ?_|refine jTS ?_)
  refine jTC (fun K hK=> ?_) ?_;go_simp;first|refine hK _ _ jN ?_|refine hK undef _ jN ?_
  clear hK;intro hr;(try have hW:=yq (size:=1) (n:=m) hr (by omega) zW);(try have hW:=yj (size:=1) (n:=m) hr (by omega) zW);replace hx:=hx.trans hr;clear hr;refine jp ?_;refine jTC (fun K hK=> ?_) ?_;go_simp;first|refine hK _ _ jN ?_|refine hK undef _ jN ?_
  clear hK;intro hr;(try have hF:=yq (size:=3) (n:=n) hr (by omega) zF);(try have hF:=yj (size:=3) (n:=n) hr (by omega) zF);replace hx:=hx.trans hr;clear hr;refine jp ?_;first|refine jTN hx ?_|refine jTS ?_
  refine jCN hx (fun K hK=> ?_);go_simp;first|refine hK _ _ jN ?_|refine hK undef _ jN ?_
  clear hK hx;intro hx;refine jp ?_;refine yl hx (fun K hK=> ?_);go_simp;refine hK _ ((by repeat(first|exact Bel.refl _ _ _|exact Bel.alloc1 (by first|assumption|omega|(simp;done)|(simp;omega))|refine Bel.drew ?_|refine Bel.drewL ?_|refine Bel.both ?_ (by first|omega|(simp;done)|(simp;omega))|(refine Bel.setCell ?_ ?_ _;rotate_left;(focus(first|omega|(simp;done)|(simp;omega))))))) ?_;clear hK hx;intro hx;refine zi ?_;rotate_left;refine jCN hx (fun K hK=> ?_);go_simp;first|refine hK _ _ jN ?_|refine hK undef _ jN ?_
  clear hK hx;intro hx;refine jp ?_;refine jTC (fun K hK=> ?_);go_simp;first|refine hK _ _ jN ?_|refine hK undef _ jN ?_
  clear hK;intro hr;(try have hF:=yq (size:=3) (n:=n) hr (by omega) zF);(try have hF:=yj (size:=3) (n:=n) hr (by omega) zF);replace hx:=hx.trans hr;clear hr;refine jp ?_;first|refine jTN hx ?_|refine jTS ?_
  refine yl hx (fun K hK=> ?_);go_simp;refine hK _ ((by repeat(first|exact Bel.refl _ _ _|exact Bel.alloc1 (by first|assumption|omega|(simp;done)|(simp;omega))|refine Bel.drew ?_|refine Bel.drewL ?_|refine Bel.both ?_ (by first|omega|(simp;done)|(simp;omega))|(refine Bel.setCell ?_ ?_ _;rotate_left;(focus(first|omega|(simp;done)|(simp;omega))))))) ?_;clear hK hx;intro hx;refine zi ?_;rotate_left;refine jTC (fun K hK=> ?_) ?_;go_simp;first|refine hK _ _ jN ?_|refine hK undef _ jN ?_
  clear hK;intro hr;(try have hF:=yq (size:=3) (n:=n) hr (by omega) zF);(try have hF:=yj (size:=3) (n:=n) hr (by omega) zF);replace hx:=hx.trans hr;clear hr;refine jp ?_;refine jTC (fun K hK=> ?_) ?_;go_simp;first|refine hK _ _ jN ?_|refine hK undef _ jN ?_
  clear hK;intro hr;(try have hW:=yq (size:=1) (n:=m) hr (by omega) zW);(try have hW:=yj (size:=1) (n:=m) hr (by omega) zW);replace hx:=hx.trans hr;clear hr;refine jp ?_;first|refine jTN hx ?_|refine jTS ?_
  refine jCN hx (fun K hK=> ?_);go_simp;first|refine hK _ _ jN ?_|refine hK undef _ jN ?_
  clear hK hx;intro hx;refine jp ?_;refine yl hx (fun K hK=> ?_);go_simp;refine hK _ ((by repeat(first|exact Bel.refl _ _ _|exact Bel.alloc1 (by first|assumption|omega|(simp;done)|(simp;omega))|refine Bel.drew ?_|refine Bel.drewL ?_|refine Bel.both ?_ (by first|omega|(simp;done)|(simp;omega))|(refine Bel.setCell ?_ ?_ _;rotate_left;(focus(first|omega|(simp;done)|(simp;omega))))))) ?_;clear hK hx;intro hx;refine zi ?_;rotate_left;refine jCN hx (fun K hK=> ?_);go_simp;first|refine hK _ _ jN ?_|refine hK undef _ jN ?_
  clear hK hx;intro hx;refine jp ?_;refine jTC (fun K hK=> ?_);go_simp;first|refine hK _ _ jN ?_|refine hK undef _ jN ?_
  clear hK;intro hr;(try have hW:=yq (size:=1) (n:=m) hr (by omega) zW);(try have hW:=yj (size:=1) (n:=m) hr (by omega) zW);replace hx:=hx.trans hr;clear hr;refine jp ?_;first|refine jTN hx ?_|refine jTS ?_
  refine yl hx (fun K hK=> ?_);go_simp;refine hK _ ((by repeat(first|exact Bel.refl _ _ _|exact Bel.alloc1 (by first|assumption|omega|(simp;done)|(simp;omega))|refine Bel.drew ?_|refine Bel.drewL ?_|refine Bel.both ?_ (by first|omega|(simp;done)|(simp;omega))|(refine Bel.setCell ?_ ?_ _;rotate_left;(focus(first|omega|(simp;done)|(simp;omega))))))) ?_;clear hK hx;intro hx;refine zi ?_;rotate_left;refine jCN hx (fun K hK=> ?_);go_simp;first|refine hK _ _ jN ?_|refine hK undef _ jN ?_
  clear hK hx;intro hx;refine jp ?_;refine jTC (fun K hK=> ?_) ?_;go_simp;first|refine hK _ _ jN ?_|refine hK undef _ jN ?_
  clear hK;intro hr;(try have hW:=yq (size:=1) (n:=m) hr (by omega) zW);(try have hW:=yj (size:=1) (n:=m) hr (by omega) zW);replace hx:=hx.trans hr;clear hr;refine jp ?_;refine jTC (fun K hK=> ?_);go_simp;first|refine hK _ _ jN ?_|refine hK undef _ jN ?_
  clear hK;intro hr;(try have hF:=yq (size:=3) (n:=n) hr (by omega) zF);(try have hF:=yj (size:=3) (n:=n) hr (by omega) zF);replace hx:=hx.trans hr;clear hr;refine jp ?_;first|refine jTN hx ?_|refine jTS ?_
  refine yl hx (fun K hK=> ?_);go_simp;refine hK _ ((by repeat(first|exact Bel.refl _ _ _|exact Bel.alloc1 (by first|assumption|omega|(simp;done)|(simp;omega))|refine Bel.drew ?_|refine Bel.drewL ?_|refine Bel.both ?_ (by first|omega|(simp;done)|(simp;omega))|(refine Bel.setCell ?_ ?_ _;rotate_left;(focus(first|omega|(simp;done)|(simp;omega))))))) ?_;clear hK hx;intro hx;refine zi ?_;rotate_left;refine jTC (fun K hK=> ?_);go_simp;first|refine hK _ _ jN ?_|refine hK undef _ jN ?_
  clear hK;intro hr;(try have hF:=yq (size:=3) (n:=n) hr (by omega) zF);(try have hF:=yj (size:=3) (n:=n) hr (by omega) zF);replace hx:=hx.trans hr;clear hr;refine jp ?_;refine jTC (fun K hK=> ?_);go_simp;first|refine hK _ _ jN ?_|refine hK undef _ jN ?_
  clear hK;intro hr;(try have hW:=yq (size:=1) (n:=m) hr (by omega) zW);(try have hW:=yj (size:=1) (n:=m) hr (by omega) zW);replace hx:=hx.trans hr;clear hr;refine jp ?_;first|refine jTN hx ?_|refine jTS ?_
  refine yl hx (fun K hK=> ?_);go_simp;refine hK _ ((by repeat(first|exact Bel.refl _ _ _|exact Bel.alloc1 (by first|assumption|omega|(simp;done)|(simp;omega))|refine Bel.drew ?_|refine Bel.drewL ?_|refine Bel.both ?_ (by first|omega|(simp;done)|(simp;omega))|(refine Bel.setCell ?_ ?_ _;rotate_left;(focus(first|omega|(simp;done)|(simp;omega))))))) ?_;clear hK hx;intro hx;refine zi ?_;rotate_left
  all_goals
   go_wp2;go_meet;refine zlv hW hF ?_ ?_ ?_ ?_ ?_ ?_ ?_ (zV hx) ?_
   ·first
     |((repeat(first|assumption|(with_reducible refine Blk.new ?_;(focus(simp;done)))|(with_reducible exact Blk.new rfl)|(with_reducible refine Blk.drew ?_)|(with_reducible refine Blk.alloc ?_ _)|refine Blk.ext ?_ (by assumption)));done)
     |(simp only[yr];(repeat(first|assumption|(with_reducible refine Blk.new ?_;(focus(simp;done)))|(with_reducible exact Blk.new rfl)|(with_reducible refine Blk.drew ?_)|(with_reducible refine Blk.alloc ?_ _)|refine Blk.ext ?_ (by assumption)));done)
   ·exact jB
   ·exact jB
   ·(first|omega|(simp;done)|(simp;omega))
   ·(first|omega|(simp;done)|(simp;omega))
   ·(first|omega|(simp;done)|(simp;omega))
   ·(first|omega|(simp;done)|(simp;omega))
   ·(first|omega|(simp;done)|(simp;omega))
 case rest=>
  obtain⟨o,gW,gF,rfl,rfl,kO,hOW,hOF,hEW,hoW,hFo,hWo⟩:=hcut
  have e0:cF.toList=frs (jL n 0):=by
   rw[HF.out];simp only[jL,List.replicate_zero,List.nil_append,Nat.sub_zero];exact(zlu n).symm
  have hOF0:=hOF;rw[e0]at hOF0;clear e0;have lO:=kO.lt;have cO:=kO.cell;have hlW:=World.ownsRow.lt hOW gW rfl;have hlF:=World.ownsRow.lt hOF gF rfl;have kR1:=kR.ext hEW;have hne:=zaa hOW hOF (by decide);clear hOF;go_wp2_with fail;go_loopw [32] (fun i wr=> ∃(k:Nat),k<=n∧i= .int .i64 k∧Blk wr o 29 #[.int .i64 sh,.slice (some ⟨gW,0,none⟩) m m,.slice (some ⟨gF,0,none⟩) n n]∧wr.ownsRow W.heap.size 67 1 (.slice (some ⟨gW,0,none⟩) m m) m cW.toList∧wr.ownsRow W.heap.size 118 3 (.slice (some ⟨gF,0,none⟩) n n) n (frs (jL n k))∧Ext W wr) (fun i _=>n-(intOf i).toNat);case atStart=>exact⟨0,by omega,rfl,kO,hOW,hOF0,hEW⟩
  case round=>
   clear kO hOW hOF0 hEW lO cO kR1;obtain⟨k,hk,rfl,kO,hOW,hOF,hEW⟩:=hrel;have cO:=kO.cell;have lO:=kO.lt;by_cases hlt:k<n
   ·have hdec:decide ((k:Int)<n)=true:=by simp;omega
    have hdec':decide (k<n)=true:=by simp;omega
    have hkI:(k:Int)<n:=by omega
    have hset:=Lib.hid (zlt hlt);have hml:=zls (n:=n) (k:=k) (by omega);have hF0:(jL n k)[k]? =some ((jL n k)[k]'(by omega)):=List.getElem?_eq_getElem (by omega);generalize(jL n k)[k]'(by omega)=F at hF0;obtain⟨bF,oF,he,c0,c1,c2⟩:=jl (Rd.of_own hOF) hF0;simp only[Option.some.injEq,Addr.mk.injEq,and_true]at he;obtain⟨rfl,rfl⟩:=he;simp only[Nat.zero_add]at c0 c1 c2;have fF:=(zz hOF).2;have lF:=zh c0;clear hF0 hml;go_wp2;go_roundw
    case rel=>
     have q1:=yv (yv (yv hOF (k*3) (.int .i64 (-1))) (k*3+1) (.int .i64 (-1))) (k*3+2) (.int .i64 (-1));have e:(((frs (jL n k)).set (k*3) (.int .i64 (-1))).set (k*3+1) (.int .i64 (-1))).set (k*3+2) (.int .i64 (-1))=frs (jL n (k+1)):=by rw[<-hset.out,za4];rfl
     rw[e]at q1;have q2:=yf (yf (yf hOW (p:=⟨gF,k*3,none⟩) hne (.int .i64 (-1))) (p:=⟨gF,k*3+1,none⟩) hne (.int .i64 (-1))) (p:=⟨gF,k*3+2,none⟩) hne (.int .i64 (-1));exact⟨k+1,by omega,by go_num,((kO.far hFo.symm _).far hFo.symm _).far hFo.symm _,q2,q1,Ext.setCell (Ext.setCell (Ext.setCell hEW (by simp;omega) _) (by simp;omega) _) (by simp;omega) _⟩
    case measure=>simp[intOf];omega
   ·have hdec:decide ((k:Int)<n)=false:=by simp;omega
    have hdec':decide (k<n)=false:=by simp;omega
    have hkn:k=n:=by omega
    have kR1:=kR.ext hEW;have cR:=kR1.cell;have fR:=kR1.froz;have lR:=kR1.lt;have hmm:jL n n=List.replicate n qS:=by simp[jL]
    rw[hkn,hmm]at hOF;clear hkn hmm;go_wp2;have p1:=((kR1.set_ 0 (.int .i64 sh)).set_ 1 (.slice (some ⟨gW,0,none⟩) m m)).set_ 2 (.slice (some ⟨gF,0,none⟩) n n);simp only[List.setIfInBounds_toArray,List.set_cons_zero,List.set_cons_succ]at p1;have hws:(xD sh n).ws.length=m:=by simp only[xD,zbk,List.length_replicate];rw[HB.out,Hm.out]
    have hfs:(xD sh n).fs.length=n:=by simp[xD]
    have hwc:words (xD sh n).ws=cW.toList:=by rw[HW.out];simp only[xD,zbk,words,List.map_replicate];rw[HB.out,Hm.out]
    refine zou (t9:= .int .i64 0) rfl rfl rfl p1 ⟨gW,m,gF,n,by rw[hws,hfs],?_,?_⟩
    ·have hb0:=Hb0.out
     repeat(refine SOw.far ?_ (by simp;omega) (by simp;omega) _)
     refine⟨?_,?_⟩
     ·rw[hws,hwc];exact zu hOW (by omega)
     ·rw[hfs];exact zu hOF (by omega)
    ·have hb0:=Hb0.out
     repeat(refine Ext.setCell ?_ (by simp;omega) _)
     exact hE0.trans hEW
theorem qm{w w':World}{A:Option Addr}{n size:Nat}{xs:List Value}{S:List Nat}(h:Rd w A n size xs)(he:But S w w')(hS:0<n-> ∀ad,A=some ad->ad.block∉S):Rd w' A n size xs:=
 ⟨h.1,fun hn=>by
   obtain⟨b,o,hA,hc⟩:=h.2 hn;exact⟨b,o,hA,fun j u hu=>zei he (hS hn _ hA) (hc j u hu)⟩⟩
def Dk(w:World)(d:Nat):Prop:= ∃(A:Option Addr) (n c k:Nat) (zs:List Int),Blk w d 54 #[.slice A n c,.int .i64 k]∧Rd w A n 1 (yb zs)∧k<=n∧n<=9223372036854775807∧(0<n-> ∀ad,A=some ad->ad.block<d)
theorem Dk.ext{w w':World}{d:Nat}(h:Dk w d)(he:Ext w w'):Dk w' d:=by
 obtain⟨A,n,c,k,zs,h1,h2,h3⟩:=h;exact⟨A,n,c,k,zs,h1.ext he,h2.ext he,h3⟩
theorem Dk.but{w w':World}{d:Nat}{S:List Nat}(h:Dk w d)(he:But S w w')(hS: ∀x∈S,d<x):Dk w' d:=by
 obtain⟨A,n,c,k,zs,h1,h2,h3,h4,h5⟩:=h;exact⟨A,n,c,k,zs,h1.but he (fun hm=>by have:=hS _ hm;omega),qm h2 he (fun hn ad hA hm=>by have:=hS _ hm;have:=h5 hn ad hA;omega),h3,h4,h5⟩
theorem Dk.lt{w:World}{d:Nat}(h:Dk w d):d<w.heap.size:=by
 obtain⟨A,n,c,k,zs,h1,_⟩:=h;exact h1.lt
theorem Dk.far{w:World}{d:Nat}(h:Dk w d){p:Addr}(hp:d<p.block)(u:Value):Dk (w.setCell p u) d:=
 h.but (S:= [p.block]) (But.setCell (But.refl _ _) (by simp) u) (fun x hx=>by have:=List.mem_singleton.1 hx;omega)
theorem zlw(A:Option Addr)(n c:Nat)(zs:List Int)(w:World)(hz:Rd w A n 1 (yb zs))(hn:n<=9223372036854775807):
 Calls Tryz.prog 5 #[.slice A n c] w fun r w'=>r= .returned (.pointer (some ⟨w.heap.size,0,none⟩))∧Dk w' w.heap.size∧Ext w w':=by
 go_enter Tryz.func5,Tryz.ntmps5;go_wp2;go_ret;have hE:Ext w (w.alloc (.cells #[.slice A n c,.int .i64 0] 54)):=by exact jX
 exact⟨rfl,⟨A,n,c,0,zs,Blk.new rfl,hz.ext hE,by omega,hn,fun h0 ad h=>by obtain⟨b,o,hA,hb⟩:=hz.lt (by omega) h0;rw[hA]at h;injection h with h;subst h;exact hb⟩,hE⟩
theorem zil(v n:Int)(w:World)(h1:1<=n)(h2:n<=9223372036854775807):
 Calls Tryz.prog 29 #[.int .i64 v,.int .i64 n] w fun e w'=>e= .returned (.int .i64 (v%n))∧w=w':=by
 go_enter Tryz.func29,Tryz.ntmps29;go_wp2
 ·go_ret
  exact⟨xQ (zok h1 h2 (by assumption)),rfl⟩
 ·go_ret
  exact⟨xQ (zol h1 (by assumption)),rfl⟩
theorem zqr(v n:Int)(i:Nat)(w:World)(h1:1<=n)(h2:n<=9223372036854775807)(h:v%n=(i:Int)):
 Calls Tryz.prog 29 #[.int .i64 v,.int .i64 n] w fun e w'=>e= .returned (.int .i64 (i:Int))∧w=w':=by
 rw[<-h];exact zil v n w h1 h2
def zow(d:Nat)(m:Int)(w:World)(r:Ending)(w':World):Prop:= ∃x:Nat,r= .returned (.int .i64 (x:Int))∧(x:Int)<m∧Dk w' d∧But [d] w w'
theorem zG(d:Nat)(m:Int)(w:World)(hd:Dk w d)(hm:1<=m)(hm2:m<=9223372036854775807):
 Calls Tryz.prog 17 #[.pointer (some ⟨d,0,none⟩),.int .i64 m] w (zow d m w):=by
 obtain⟨A,n,c,k,zs,h1,h2,h3,h4,hAd⟩:=hd;have hc:=h1.cell;have hf:=h1.froz;have hkb:(k:Int)<=9223372036854775807:=by omega
 by_cases hlt:k<n
 ·obtain⟨b,o,u,rfl,hku,hcell⟩:=h2.at_ hlt
  obtain⟨z,rfl⟩: ∃z,u= .int .i64 z:=by
   simp only[yb,List.getElem?_map,Option.map_eq_some_iff]at hku;obtain⟨z,_,h⟩:=hku;exact⟨z,h.symm⟩
  have hbl:b<d:=hAd (by omega) _ rfl;have hbd:b≠d:=by omega
  have hdb:d≠b:=fun e=>hbd e.symm
  have hdec:decide ((n:Int)<=k)=false:=by simp;omega
  have hdec':decide (n<=k)=false:=by simp;omega
  have b1:(k:Int)+1-1=k:=by omega
  have b2:(k:Int)<n:=by omega
  have hr0:=Int.emod_nonneg z (b:=m) (by omega);have hr1:=Int.emod_lt_of_pos z (b:=m) (by omega);obtain⟨q,hq⟩: ∃q:Nat,z%m=(q:Int):=⟨(z%m).toNat,by omega⟩;have Hq:=Lib.hid hq;have Hku:=Lib.hid hku;clear hku hq;go_enter Tryz.func17,Tryz.ntmps17;go_wp2;refine jRE [(true,0),(true,1),(true,2),(true,3),(true,4),(true,5),(true,6),(true,7),(true,8),(true,9)] Tryz.mixed fun hx=> ?_
  repeat(first
   |refine jLE hx ?_
   |refine jLS ?_
   |(refine yo hx (fun K hK=> ?_);go_simp;(first|refine hK _ _ jX ?_|refine hK undef _ jX ?_);clear hK hx;intro hx;try refine jq ?_))
  refine zH ?_;go_wp2;refine jRE [(true,0),(true,1),(true,2),(true,3),(true,4),(true,5),(true,6),(true,7),(true,8),(true,9),(true,10),(true,11),(false,12),(true,13)] Tryz.mixed fun hx=> ?_
  repeat(first
   |refine jLE hx ?_
   |refine jLS ?_
   |(refine yo hx (fun K hK=> ?_);go_simp;go_at_call 29;refine(zqr _ _ q _ (by omega) (by omega) Hq.out).mono ?_;rintro e w1 ⟨rfl,rfl⟩;refine hK _ _ (Ext.refl _) ?_;clear hK hx;intro hx;refine jq ?_)
   |(refine yo hx (fun K hK=> ?_);go_simp;(first|refine hK _ _ jX ?_|refine hK undef _ jX ?_);clear hK hx;intro hx;try refine jq ?_))
  refine zH ?_;go_wp2;go_ret;have hB:But [d] w (w.setCell ⟨d,1,none⟩ (.int .i64 ((k:Int)+1))).drew.drew:=But.drew (But.drew (But.setCell (But.refl _ _) (by simp) _));refine⟨q,rfl,by have:=Hq.out;omega,⟨some ⟨b,o,none⟩,n,c,k+1,zs,?_,qm h2 hB (fun h0 ad h=>by simp only[List.mem_singleton];have:=hAd h0 ad h;omega),by omega,h4,hAd⟩,hB⟩;have:=(h1.set_ 1 (.int .i64 ((k:Int)+1))).drew.drew;exact this
 ·have hdec:decide ((n:Int)<=k)=true:=by simp;omega
  go_enter Tryz.func17,Tryz.ntmps17;go_wp2;refine jRE [(true,0),(true,1),(true,2),(true,3),(true,4),(true,5),(true,6),(true,7),(true,8),(true,9)] Tryz.mixed fun hx=> ?_
  repeat(first
   |refine jLE hx ?_
   |refine jLS ?_
   |(refine yo hx (fun K hK=> ?_);go_simp;(first|refine hK _ _ jX ?_|refine hK undef _ jX ?_);clear hK hx;intro hx;try refine jq ?_))
  refine zH ?_;go_wp2;go_ret;have hE:Ext w w.drew:=by exact jX
  exact⟨0,rfl,by omega,Dk.ext ⟨A,n,c,k,zs,h1,h2,h3,h4,hAd⟩ hE,hE.but _⟩
structure Inc where
 q:Int
 b:Int
 f:Int
 l:Int
 w:Int
deriving DecidableEq
def Inc.a(i:Inc):Array Value:= #[.int .i64 i.q,.int .i64 i.b,.int .i64 i.f,.int .i64 i.l,.int .i64 i.w]
def zQ:List Inc->List Value
 | []=> []
 |i::l=> .int .i64 i.q:: .int .i64 i.b:: .int .i64 i.f:: .int .i64 i.l:: .int .i64 i.w::zQ l
theorem zct: ∀l,(zQ l).length=l.length*5
 | []=>rfl
 |f::l=>by simp only[zQ,List.length_cons,zct l];omega
theorem zex: ∀(l:List Inc) (k:Nat) (i:Inc),l[k]? =some i->(zQ l)[k*5]? =some (.int .i64 i.q)∧(zQ l)[k*5+1]? =some (.int .i64 i.b)∧(zQ l)[k*5+2]? =some (.int .i64 i.f)∧(zQ l)[k*5+3]? =some (.int .i64 i.l)∧(zQ l)[k*5+4]? =some (.int .i64 i.w)
 | [],k,f,h=>by simp at h
 |g::l,0,f,h=>by
  simp only[List.getElem?_cons_zero,Option.some.injEq]at h;subst h;exact⟨rfl,rfl,rfl,rfl,rfl⟩
 |g::l,k+1,f,h=>by
  simp only[List.getElem?_cons_succ]at h;have:=zex l k f h;rw[show(k+1)*5=k*5+1+1+1+1+1 by omega];exact this
theorem yC: ∀(l m:List Inc),zQ (l++m)=zQ l++zQ m
 | [],m=>rfl
 |g::l,m=>by simp only[List.cons_append,zQ,yC l m]
theorem v8: ∀l,∀u∈zQ l,u.oneCell'=true
 | [],u,h=>by simp[zQ]at h
 |f::l,u,h=>by
  simp only[zQ,List.mem_cons]at h;rcases h with rfl|rfl|rfl|rfl|rfl|h
  ·rfl
  ·rfl
  ·rfl
  ·rfl
  ·rfl
  ·exact v8 l u h
theorem xo{w:World}{A:Option Addr}{n:Nat}{l:List Inc}(h:Rd w A n 5 (zQ l)){k:Nat}{i:Inc}(hk:l[k]? =some i):
 ∃b o,A=some ⟨b,o,none⟩∧w.cell? ⟨b,o+k*5,none⟩=some (.int .i64 i.q)∧w.cell? ⟨b,o+k*5+1,none⟩=some (.int .i64 i.b)∧w.cell? ⟨b,o+k*5+2,none⟩=some (.int .i64 i.f)∧w.cell? ⟨b,o+k*5+3,none⟩=some (.int .i64 i.l)∧w.cell? ⟨b,o+k*5+4,none⟩=some (.int .i64 i.w):=by
 have hl:=(List.getElem?_eq_some_iff.1 hk).1;have h1:=h.1;rw[zct]at h1;obtain⟨b,o,rfl,hc⟩:=h.2 (by omega);obtain⟨a1,a2,a3,a4,a5⟩:=zex l k i hk;exact⟨b,o,rfl,hc _ _ a1,hc _ _ a2,hc _ _ a3,hc _ _ a4,hc _ _ a5⟩
theorem Tryz.elN:Elem Tryz.prog 155 144 (.agg #[.int .i64 0,.int .i64 0,.int .i64 0,.int .i64 0,.int .i64 0]) 5 40:=⟨Tryz.underlying155,by kernel_rfl,rfl,by omega⟩
theorem zN{w:World}{base n size b:Nat}{v:Value}{e t:TypeId}{xs:List Value}{cs:Array Value}(h:w.ownsRow base e size v n xs)(k:Blk w b t cs)(hne:e≠t):v.ownBlock≠some b:=by
 intro hv;rcases h.2 with⟨h0,_⟩|⟨k',cap,cur,hv2,_,hg,_⟩
 ·subst h0;simp[Value.ownBlock]at hv
 ·subst hv2
  simp only[Value.ownBlock,Option.some.injEq]at hv;subst hv;unfold Blk at k;rw[hg]at k;injection k with k;injection k with _ ht;exact hne ht
def ke(p:Ch×Nat):Inc:=⟨p.1.q,p.1.b,yz p.1.c 0,yp p.1.c,p.2⟩
def chs(l:List (Ch×Nat)):List Ch:=(l.map (·.1)).reverse
theorem zlx{w w':World}{base n size:Nat}{v:Value}{e:TypeId}{xs:List Value}{S:List Nat}(h:w.ownsRow base e size v n xs)(he:But S w w')(hS: ∀x∈S,x<base):w'.ownsRow base e size v n xs:=
 zo h he (fun g hg hm=>by have:=(World.ownsRow.lt h g hg).1;have:=hS g hm;omega)
theorem zbl{w:World}{base n size base' g' n' c' size':Nat}{v:Value}{e e':TypeId}{xs xs':List Value}(h:w.ownsRow base e size v n xs)(h':w.ownsRow base' e' size' (.slice (some ⟨g',0,none⟩) n' c') n' xs')(hne:e≠e'):v.ownBlock≠some g':=by
 intro hv;rcases h.2 with⟨h0,_⟩|⟨k,cap,cur,hv2,_,hg,_⟩
 ·subst h0;simp[Value.ownBlock]at hv
 ·subst hv2
  simp only[Value.ownBlock,Option.some.injEq]at hv;subst hv;rcases h'.2 with⟨h0,_⟩|⟨k',cap',cur',hv',_,hg',_⟩
  ·simp at h0
  ·simp only[Value.slice.injEq,Option.some.injEq,Addr.mk.injEq,and_true,true_and]at hv'
   obtain⟨rfl,_⟩:=hv';rw[hg]at hg';injection hg' with hg';injection hg' with _ ht;exact hne ht
theorem zas(z:Int)(r d:Nat)(w:World)(h1:r<=15)(h2:d<=32)(hz:z=hd r d):
 Calls Tryz.prog 66 #[.int .u64 z] w fun e w'=>e= .returned (.tuple #[.int .i64 (r:Int),.int .i64 (d:Int),.int .i64 0,.bool false,.int .i64 0])∧w=w':=by
 unfold hd at hz;have z0:0<=z:=by omega
 have e1:z.tmod 2=0:=by rw[Int.tmod_eq_emod_of_nonneg z0];omega
 have e2:z.tmod 256=2*(r:Int):=by rw[Int.tmod_eq_emod_of_nonneg z0];omega
 have e3:z.tdiv 256=1+(r:Int)+d:=by rw[Int.tdiv_eq_ediv_of_nonneg z0];omega
 have e4:(2*(r:Int)).tdiv 2=r:=by rw[Int.tdiv_eq_ediv_of_nonneg (by omega)];omega
 have e5:z%2=0:=by omega
 have e6:z%256=2*(r:Int):=by omega
 have e7:z/256=1+(r:Int)+d:=by omega
 have e8:(2*(r:Int))/2=r:=by omega
 have d1:decide ((48:Int)<1+(r:Int)+d)=false:=decide_eq_false (by omega);have d2:decide ((15:Int)<r)=false:=decide_eq_false (by omega);have d2':decide (15<r)=false:=decide_eq_false (by omega);have d3:decide (1+(r:Int)+d<1+(r:Int))=false:=decide_eq_false (by omega);have e9:1+(r:Int)+d-1-r=d:=by omega
 have d4:decide ((32:Int)<d)=false:=decide_eq_false (by omega);have d4':decide (32<d)=false:=decide_eq_false (by omega);have b1:(r:Int)<=15:=by omega
 have b2:(d:Int)<=32:=by omega
 have b3:z<18446744073709551616:=by omega
 clear hz;go_enter Tryz.func66,Tryz.ntmps66;go_wp2;refine bodyPost_ret (v:= .tuple #[.int .i64 (r:Int),.int .i64 (d:Int),.int .i64 0,.bool false,.int .i64 0]) (by simp[results,Tryz.results66,go_sem]) rfl ?_;exact⟨rfl,rfl⟩
theorem zgx(z:Int)(b:Nat)(w:World)(h1:b<16384)(hz:z=2*(b:Int)+1):
 Calls Tryz.prog 66 #[.int .u64 z] w fun e w'=>e= .returned (.tuple #[.int .i64 0,.int .i64 0,.int .i64 (b:Int),.bool true,.int .i64 0])∧w=w':=by
 have z0:0<=z:=by omega
 have e1:z.tmod 2=1:=by rw[Int.tmod_eq_emod_of_nonneg z0];omega
 have e2:z.tdiv 2=b:=by rw[Int.tdiv_eq_ediv_of_nonneg z0];omega
 have e5:z%2=1:=by omega
 have e6:z/2=b:=by omega
 have d1:decide ((16384:Int)<=b)=false:=decide_eq_false (by omega);have d1':decide (16384<=b)=false:=decide_eq_false (by omega);have b1:(b:Int)<16384:=by omega
 have b3:z<18446744073709551616:=by omega
 clear hz;go_enter Tryz.func66,Tryz.ntmps66;go_wp2;refine bodyPost_ret (v:= .tuple #[.int .i64 0,.int .i64 0,.int .i64 (b:Int),.bool true,.int .i64 0]) (by simp[results,Tryz.results66,go_sem]) rfl ?_;exact⟨rfl,rfl⟩
theorem zey(b:Nat)(w:World)(h1:b<16384):
 Calls Tryz.prog 125 #[.int .i64 (b:Int)] w fun e w'=>e= .returned (.tuple #[.int .u64 (2*(b:Int)+1),.int .i64 0])∧w=w':=by
 have d0:decide ((b:Int)<0)=false:=decide_eq_false (by omega);have d1:decide ((16384:Int)<=b)=false:=decide_eq_false (by omega);have d1':decide (16384<=b)=false:=decide_eq_false (by omega);have b1:(b:Int)<16384:=by omega
 go_enter Tryz.func125,Tryz.ntmps125;go_wp2
 go_ret2
 exact⟨rfl,rfl⟩
theorem zox(r d:Nat)(w:World)(h1:r<=15)(h2:d<=32):
 Calls Tryz.prog 54 #[.int .i64 r,.int .i64 d] w fun e w'=>e= .returned (.tuple #[.int .u64 (hd r d),.int .i64 0])∧w=w':=by
 have d1:decide ((15:Int)<r)=false:=by(first|omega|(simp;done)|(simp;omega))
 have d1':decide (15<r)=false:=by(first|omega|(simp;done)|(simp;omega))
 have d2:decide ((32:Int)<d)=false:=by(first|omega|(simp;done)|(simp;omega))
 have d2':decide (32<d)=false:=by(first|omega|(simp;done)|(simp;omega))
 have hh:hd r d=(1+(r:Int)+d)*256+r*2:=by unfold hd;omega
 go_enter Tryz.func54,Tryz.ntmps54;go_wp2
 go_ret2
 rw[hh];exact⟨rfl,rfl⟩
theorem qU(A Bf:Option Addr)(a b:Nat)(S:Sp)(L:List Ch)(x:Ch)(B p r d:Nat)(w:World)(h:SRd w S A Bf)(hS:Chs S L)(hx:x∈L)(hB:2^S.sh=B)(hp:p+(r+d)<x.c.length*B)(hr:r<=15)(hd':d<=32)(hh:S.ws[zy x.c B p]? =some (hd r d)):
 Calls Tryz.prog 41 #[spV S A a Bf b,.int .i64 (zy x.c B p:Nat)] w fun e w'=>e= .returned (.tuple #[.int .i64 (r:Int),.int .i64 (d:Int),.int .i64 0])∧Ext w w':=by
 unfold spV;obtain⟨t,ht⟩: ∃t,zy x.c B p=t:=⟨_,rfl⟩;obtain⟨z,hz⟩: ∃z,hd r d=z:=⟨_,rfl⟩;rw[ht,hz]at hh;rw[ht];have Ht:=Lib.hid ht;have Hz:=Lib.hid hz.symm;have HS:=Lib.hid hS;have HB:=Lib.hid hB;have hn2:=hS.n2.2;have htl:=(List.getElem?_eq_some_iff.1 hh).1;have htI:(t:Int)<S.ws.length:=by omega
 have d1:decide ((t:Int)<S.ws.length)=true:=decide_eq_true htI;have d2:decide (t<S.ws.length)=true:=decide_eq_true htl;obtain⟨bA,oA,rfl,hc⟩:=xw h.W hh;have lc:=zh hc;have Hh:=Lib.hid hh;clear ht hz hS hB hh;go_enter Tryz.func41,Tryz.ntmps41;have hE0:=Ext.alloc (Ext.refl w) (.cells #[.int .i64 S.sh,.slice (some ⟨bA,oA,none⟩) S.ws.length a,.slice Bf S.fs.length b] 29);have kS:Blk (w.alloc (.cells #[.int .i64 S.sh,.slice (some ⟨bA,oA,none⟩) S.ws.length a,.slice Bf S.fs.length b] 29)) w.heap.size 29 #[.int .i64 S.sh,.slice (some ⟨bA,oA,none⟩) S.ws.length a,.slice Bf S.fs.length b]:=Blk.new rfl;go_upto_region 1 with fail;have h1:=h.ext hE0;have hc1:=(Ext.cell hE0 _ _ (by rw[hc];rfl)).trans hc;clear hc lc;generalize w.alloc (.cells #[.int .i64 S.sh,.slice (some ⟨bA,oA,none⟩) S.ws.length a,.slice Bf S.fs.length b] 29)=W at*;generalize w.heap.size=gS at*;have cS:=kS.cell;have lS:=kS.lt;go_wp2_with fail;go_at_call 65;refine(vV (some ⟨bA,oA,none⟩) Bf a b S L x B p 0 t t 0 _ h1 HS.out hx HB.out (by omega) rfl Ht.out Ht.out).mono ?_;rintro e w1 ⟨rfl,hE1⟩;have kS1:=kS.ext hE1;have cS1:=kS1.cell;have lS1:=kS1.lt;have hc2:=(Ext.cell hE1 _ _ (by rw[hc1];rfl)).trans hc1;have lc2:=zh hc2;obtain⟨t2,ht2⟩: ∃t2,zy x.c B (p+(r+d))=t2:=⟨_,rfl⟩;have Ht2:=Lib.hid ht2;clear ht2;go_wp2_with(first|(go_at_call 66;refine(zas z r d _ hr hd' Hz.out).mono ?_;rintro e w1 ⟨rfl,rfl⟩));go_at_call 65;refine(vV (some ⟨bA,oA,none⟩) Bf a b S L x B p (r+d) t t2 ((r:Int)+d) _ (h1.ext hE1) HS.out hx HB.out hp (by omega) Ht.out Ht2.out).mono ?_;rintro e w2 ⟨rfl,hE2⟩;go_wp2_with fail;refine bodyPost_ret (v:= .tuple #[.int .i64 (r:Int),.int .i64 (d:Int),.int .i64 0]) (by simp[results,Tryz.results41,go_sem]) rfl ?_;exact⟨rfl,by exact jX⟩
def xE(c:List Nat)(B p k:Nat):List Nat:=(List.range k).map fun e=>zy c B (p+(1+e))
theorem vW(c:List Nat)(B p k:Nat):(xE c B p k).length=k:=by simp[xE]
theorem zez(c:List Nat)(B p k:Nat):xE c B p (k+1)=xE c B p k++ [zy c B (p+(1+k))]:=by simp[xE,List.range_succ]
def zcu(w:World)(l:List Nat)(r:Ending)(w':World):Prop:=
 ∃A c,r= .returned (.tuple #[.slice A l.length c,.int .i64 0])∧w'.ownsRow w.heap.size 3 1 (.slice A l.length c) l.length (yb (yB l))∧Ext w w'
theorem zgy(A Bf:Option Addr)(a b:Nat)(S:Sp)(L:List Ch)(x:Ch)(B p r d:Nat)(w:World)(h:SRd w S A Bf)(hS:Chs S L)(hx:x∈L)(hB:2^S.sh=B)(hp:p+(r+d)<x.c.length*B)(hr:r<=15)(hd':d<=32)(hh:S.ws[zy x.c B p]? =some (hd r d)):
 Calls Tryz.prog 121 #[spV S A a Bf b,.int .i64 (zy x.c B p:Nat)] w (zcu w (xE x.c B p r)):=by
 have hl:=qU A Bf a b S L x B p r d;unfold spV at hl|-;obtain⟨t,ht⟩: ∃t,zy x.c B p=t:=⟨_,rfl⟩;rw[ht]at hh hl|-;have Ht:=Lib.hid ht;have HS:=Lib.hid hS;have HB:=Lib.hid hB;have Hh:=Lib.hid hh;have Hl:=Lib.hid hl;clear ht hS hB hh hl;go_enter Tryz.func121,Tryz.ntmps121;have hE0:=Ext.alloc (Ext.refl w) (.cells #[.int .i64 S.sh,.slice A S.ws.length a,.slice Bf S.fs.length b] 29);have kS:Blk (w.alloc (.cells #[.int .i64 S.sh,.slice A S.ws.length a,.slice Bf S.fs.length b] 29)) w.heap.size 29 #[.int .i64 S.sh,.slice A S.ws.length a,.slice Bf S.fs.length b]:=Blk.new rfl;go_upto_region 1 with fail;have h1:=h.ext hE0;generalize w.alloc (.cells #[.int .i64 S.sh,.slice A S.ws.length a,.slice Bf S.fs.length b] 29)=W at*;obtain⟨gS,hgS⟩: ∃gS,w.heap.size=gS:=⟨_,rfl⟩;rw[hgS]at kS|-;have HgS:=Lib.hid hgS;clear hgS;have cS:=kS.cell;have lS:=kS.lt;go_wp2_with fail;go_at_call 41;refine(Hl.out W h1 HS.out hx HB.out hp hr hd' Hh.out).mono ?_;rintro e w1 ⟨rfl,hE1⟩;have h2:=h1.ext hE1;have kS1:=kS.ext hE1;have hE01:=hE0.trans hE1;have hb1:w.heap.size<=w1.heap.size:=hE01.size_le;clear h h1 kS cS lS hE0 hE1;go_wp2_with fail;go_loopw [9,10] (fun s i wr=> ∃(k:Nat) (D:Option Addr) (c:Nat),k<=r∧i= .int .i64 k∧s= .slice D k c∧wr.ownsRow w1.heap.size 3 1 (.slice D k c) k (yb (yB (xE x.c B p k)))∧Ext w1 wr) (fun _ i _=>r-(intOf i).toNat);case atStart=>exact⟨0,none,0,by omega,rfl,rfl,zP _ _ _ _,by exact jX⟩
 case round=>
  obtain⟨k,D,c,hk,rfl,rfl,hown,hE⟩:=hrel;by_cases hlt:k<r
  ·have hdec:decide ((k:Int)<r)=true:=by simp;omega
   have hdec':decide (k<r)=true:=by simp;omega
   have kSr:=kS1.ext hE;have cS:=kSr.cell;have lS:=kSr.lt;obtain⟨t2,ht2⟩: ∃t2,zy x.c B (p+(1+k))=t2:=⟨_,rfl⟩;have hts:xE x.c B p (k+1)=xE x.c B p k++ [t2]:=by rw[zez,ht2]
   have Ht2:=Lib.hid ht2;have Hts:=Lib.hid hts;clear ht2 hts;go_wp2_with fail;go_at_call 65;refine(vV A Bf a b S L x B p (1+k) t t2 (1+(k:Int)) _ (h2.ext hE) HS.out hx HB.out (by omega) (by omega) Ht.out Ht2.out).mono ?_;rintro e w3 ⟨rfl,hE3⟩;have hown1:=zm hown hE3;have hsz:=(hE.trans hE3).size_le;clear cS lS;go_wp2_with(first|(at_builtin;refine zJ rfl Tryz.elI _ _ rfl w1.heap.size _ _ _ rfl (z8 hown1 _) _ 1 1 _ rfl (xm _ _ _) (by simp[Value.oneCell']) (by omega) (by omega) (by(first|omega|(simp;done)|(simp;omega))) ?_;intro A2 c2 w2 hown2 hg2 hat2));have hE4:Ext w1 w2:=yy (Ext.alloc (hE.trans hE3) _) hg2 (z8 hown1 _) (Nat.le_refl _);go_roundw;case rel=>exact⟨k+1,A2,c2,by omega,by go_num,rfl,by rw[Hts.out,<-qg];simpa using hown2,hE4⟩
   case measure=>simp[intOf];omega
  ·have hdec:decide ((k:Int)<r)=false:=by simp;omega
   have hdec':decide (k<r)=false:=by simp;omega
   have hke:k=r:=by omega
   subst hke;go_wp2_with fail;refine bodyPost_ret (v:= .tuple #[.slice D k c,.int .i64 0]) (by simp[results,Tryz.results121,go_sem]) rfl ?_;refine⟨D,c,by rw[vW],?_,hE01.trans hE⟩;rw[vW];exact zu hown hb1
theorem zbm(A Bf:Option Addr)(a b:Nat)(S:Sp)(L:List Ch)(x:Ch)(B p r d i:Nat)(w:World)(h:SRd w S A Bf)(hS:Chs S L)(hx:x∈L)(hB:2^S.sh=B)(hp:p+(r+d)<x.c.length*B)(hr:r<=15)(hd':d<=32)(hh:S.ws[zy x.c B p]? =some (hd r d))(hi:i<r):
 Calls Tryz.prog 67 #[spV S A a Bf b,.int .i64 (zy x.c B p:Nat),.int .i64 (i:Int),.bool true] w (vk w (zy x.c B (p+(1+i)))):=by
 have hl:=qU A Bf a b S L x B p r d;unfold spV at hl|-;obtain⟨t,ht⟩: ∃t,zy x.c B p=t:=⟨_,rfl⟩;obtain⟨t2,ht2⟩: ∃t2,zy x.c B (p+(1+i))=t2:=⟨_,rfl⟩;rw[ht]at hh hl|-;rw[ht2];have Ht:=Lib.hid ht;have Ht2:=Lib.hid ht2;have HS:=Lib.hid hS;have HB:=Lib.hid hB;have Hh:=Lib.hid hh;have Hl:=Lib.hid hl;have d1:decide ((r:Int)<=i)=false:=decide_eq_false (by omega);have d1':decide (r<=i)=false:=decide_eq_false (by omega);have d0:decide ((i:Int)<0)=false:=decide_eq_false (by omega);clear ht ht2 hS hB hh hl;go_enter Tryz.func67,Tryz.ntmps67;have hE0:=Ext.alloc (Ext.refl w) (.cells #[.int .i64 S.sh,.slice A S.ws.length a,.slice Bf S.fs.length b] 29);have kS:Blk (w.alloc (.cells #[.int .i64 S.sh,.slice A S.ws.length a,.slice Bf S.fs.length b] 29)) w.heap.size 29 #[.int .i64 S.sh,.slice A S.ws.length a,.slice Bf S.fs.length b]:=Blk.new rfl;go_upto_region 1 with fail;have h1:=h.ext hE0;generalize w.alloc (.cells #[.int .i64 S.sh,.slice A S.ws.length a,.slice Bf S.fs.length b] 29)=W at*;generalize w.heap.size=gS at*;have cS:=kS.cell;have lS:=kS.lt;go_wp2_with fail;go_at_call 41;refine(Hl.out W h1 HS.out hx HB.out hp hr hd' Hh.out).mono ?_;rintro e w1 ⟨rfl,hE1⟩;have h2:=h1.ext hE1;have kS1:=kS.ext hE1;have cS1:=kS1.cell;have lS1:=kS1.lt;clear cS lS;go_wp2_with fail;go_at_call 65;refine(vV A Bf a b S L x B p (1+i) t t2 ((1:Int)+i) _ h2 HS.out hx HB.out (by omega) (by omega) Ht.out Ht2.out).mono ?_;rintro e w3 ⟨rfl,hE3⟩;go_wp2_with fail;refine bodyPost_ret (v:= .tuple #[.int .i64 (t2:Int),.int .i64 0]) (by simp[results,Tryz.results67,go_sem]) rfl ?_;exact⟨rfl,by exact jX⟩
theorem zat(A Bf:Option Addr)(a b:Nat)(S:Sp)(L:List Ch)(x:Ch)(B p r d i:Nat)(w:World)(h:SRd w S A Bf)(hS:Chs S L)(hx:x∈L)(hB:2^S.sh=B)(hp:p+(r+d)<x.c.length*B)(hr:r<=15)(hd':d<=32)(hh:S.ws[zy x.c B p]? =some (hd r d))(hi:i<d):
 Calls Tryz.prog 67 #[spV S A a Bf b,.int .i64 (zy x.c B p:Nat),.int .i64 (i:Int),.bool false] w (vk w (zy x.c B (p+((1+r)+i)))):=by
 have hl:=qU A Bf a b S L x B p r d;unfold spV at hl|-;obtain⟨t,ht⟩: ∃t,zy x.c B p=t:=⟨_,rfl⟩;obtain⟨t2,ht2⟩: ∃t2,zy x.c B (p+((1+r)+i))=t2:=⟨_,rfl⟩;rw[ht]at hh hl|-;rw[ht2];have Ht:=Lib.hid ht;have Ht2:=Lib.hid ht2;have HS:=Lib.hid hS;have HB:=Lib.hid hB;have Hh:=Lib.hid hh;have Hl:=Lib.hid hl;have d1:decide ((d:Int)<=i)=false:=decide_eq_false (by omega);have d1':decide (d<=i)=false:=decide_eq_false (by omega);have d0:decide ((i:Int)<0)=false:=decide_eq_false (by omega);clear ht ht2 hS hB hh hl;go_enter Tryz.func67,Tryz.ntmps67;have hE0:=Ext.alloc (Ext.refl w) (.cells #[.int .i64 S.sh,.slice A S.ws.length a,.slice Bf S.fs.length b] 29);have kS:Blk (w.alloc (.cells #[.int .i64 S.sh,.slice A S.ws.length a,.slice Bf S.fs.length b] 29)) w.heap.size 29 #[.int .i64 S.sh,.slice A S.ws.length a,.slice Bf S.fs.length b]:=Blk.new rfl;go_upto_region 1 with fail;have h1:=h.ext hE0;generalize w.alloc (.cells #[.int .i64 S.sh,.slice A S.ws.length a,.slice Bf S.fs.length b] 29)=W at*;generalize w.heap.size=gS at*;have cS:=kS.cell;have lS:=kS.lt;go_wp2_with fail;go_at_call 41;refine(Hl.out W h1 HS.out hx HB.out hp hr hd' Hh.out).mono ?_;rintro e w1 ⟨rfl,hE1⟩;have h2:=h1.ext hE1;have kS1:=kS.ext hE1;have cS1:=kS1.cell;have lS1:=kS1.lt;clear cS lS;go_wp2_with fail;go_at_call 65;refine(vV A Bf a b S L x B p ((1+r)+i) t t2 (((1+r):Int)+i) _ h2 HS.out hx HB.out (by omega) (by omega) Ht.out Ht2.out).mono ?_;rintro e w3 ⟨rfl,hE3⟩;go_wp2_with fail;refine bodyPost_ret (v:= .tuple #[.int .i64 (t2:Int),.int .i64 0]) (by simp[results,Tryz.results67,go_sem]) rfl ?_;exact⟨rfl,by exact jX⟩
theorem zgz(A Bf D:Option Addr)(a b n c:Nat)(S:Sp)(w:World)(h:SRd w S A Bf):
 Calls Tryz.prog 117 #[spV S A a Bf b,.slice D n c,.int .u64 0] w fun r w'=>r= .returned (.bool false)∧Ext w w':=by
 unfold spV;go_enter Tryz.func117,Tryz.ntmps117;go_wp2;go_ret;exact⟨rfl,by exact jX⟩
theorem zg0(A Bf D:Option Addr)(a b c t B:Nat)(S:Sp)(l:List Inc)(F:Fr)(w:World)(h:SRd w S A Bf)(hl:Rd w D l.length 5 (zQ l))(hB:2^S.sh=B)(hs:S.sh<=8)(ht:t<S.ws.length)(hwl:S.ws.length<=16384)(hF:S.fs[t/B]? =some F)(hn:l.length<=1000):
 Calls Tryz.prog 117 #[spV S A a Bf b,.slice D l.length c,.int .u64 ((t:Int)+1)] w fun r w'=>r= .returned (.bool (l.any fun i=>decide (F.o=i.q)))∧Ext w w':=by
 unfold spV;have e0:decide ((S.ws.length:Int)<(t:Int)+1)=false:=decide_eq_false (by omega);have e1:((t:Int)+1==0)=false:=by simp;omega
 have e2:decide ((t:Int)+1=0)=false:=decide_eq_false (by omega);have e3:(t:Int)+1-1=t:=by omega
 have hfl:=(List.getElem?_eq_some_iff.1 hF).1;have hp:(2:Int)^S.sh=(B:Int):=by rw[<-hB];simp
 have e4:(t:Int)/(B:Int)=((t/B:Nat):Int):=by simp
 obtain⟨bF,oF,rfl,f0,f1,f2⟩:=jl h.F hF;have lf:=zh f0;generalize hg:t/B=g at*;have d1:decide ((g:Int)<S.fs.length)=true:=decide_eq_true (by omega);have d2:decide (g<S.fs.length)=true:=decide_eq_true hfl;have e5:((S.sh:Int)).toNat=S.sh:=by omega
 have e6:(t:Int)+1<18446744073709551616:=by omega
 have e7:(t:Int)<9223372036854775808:=by omega
 clear hF hg;go_enter Tryz.func117,Tryz.ntmps117;go_upto_region 4 with fail;have hEW:Ext w ((w.alloc (.cells #[.int .i64 S.sh,.slice A S.ws.length a,.slice (some ⟨bF,oF,none⟩) S.fs.length b] 29)).alloc (.cells #[.int .i64 F.o,.int .i64 F.s,.int .i64 F.n] 118)):=by exact jX
 have kF:Blk ((w.alloc (.cells #[.int .i64 S.sh,.slice A S.ws.length a,.slice (some ⟨bF,oF,none⟩) S.fs.length b] 29)).alloc (.cells #[.int .i64 F.o,.int .i64 F.s,.int .i64 F.n] 118)) (w.heap.size+1) 118 #[.int .i64 F.o,.int .i64 F.s,.int .i64 F.n]:=Blk.new (by simp);have hlW:=hl.ext hEW;clear hl f0 f1 f2 lf;generalize(w.alloc (.cells #[.int .i64 S.sh,.slice A S.ws.length a,.slice (some ⟨bF,oF,none⟩) S.fs.length b] 29)).alloc (.cells #[.int .i64 F.o,.int .i64 F.s,.int .i64 F.n] 118)=W at*;go_wp2_with fail;go_loopw [33] (fun i wr=> ∃k:Nat,k<=l.length∧i= .int .i64 k∧(∀x∈l.take k,F.o≠x.q)∧Ext W wr) (fun i _=>l.length-(intOf i).toNat);case atStart=>exact⟨0,by omega,rfl,by simp,by exact jX⟩
 case round=>
  obtain⟨k,hk,rfl,hno,hE⟩:=hrel;have Hno:=Lib.hid hno;clear hno;have kF1:=kF.ext hE;have cF:=kF1.cell;have lF:=kF1.lt;by_cases hlt:k<l.length
  ·have hdec:decide ((k:Int)<l.length)=true:=by simp;omega
   have hdec':decide (k<l.length)=true:=by simp;omega
   have hkI:(k:Int)<l.length:=by omega
   obtain⟨i,hi⟩: ∃i,l[k]? =some i:=⟨_,List.getElem?_eq_getElem hlt⟩;obtain⟨bD,oD,rfl,c0,c1,c2,c3,c4⟩:=xo (hlW.ext hE) hi;have ld:=zh c0;have Hi:=Lib.hid hi;clear hi;by_cases he:F.o=i.q
   ·have q1:(F.o==i.q)=true:=by simpa using he
    have q2:decide (F.o=i.q)=true:=by simpa using he
    have Hr:=Lib.hid (show(l.any fun i=>decide (F.o=i.q))=true from List.any_eq_true.2 ⟨i,List.mem_of_getElem? Hi.out,q2⟩);clear he;go_wp2_with fail;go_ret;exact⟨xv Hr.out.symm,by exact jX⟩
   ·have q1:(F.o==i.q)=false:=by simpa using he
    have q2:decide (F.o=i.q)=false:=by simpa using he
    have He:=Lib.hid he;clear he;go_wp2_with fail;go_roundw
    case rel=>exact⟨k+1,by omega,by go_num,fun x hx=>by
     rw[List.take_add_one,Hi.out]at hx;rcases List.mem_append.1 hx with hx|hx
     ·exact Hno.out x hx
     ·simp only[Option.toList,List.mem_singleton]at hx
      subst hx;exact He.out,by exact jX⟩
    case measure=>simp[intOf];omega
  ·have hdec:decide ((k:Int)<l.length)=false:=by simp;omega
   have hdec':decide (k<l.length)=false:=by simp;omega
   have hke:k=l.length:=by omega
   have Hr:=Lib.hid (show(l.any fun i=>decide (F.o=i.q))=false from by
    rw[List.any_eq_false];intro x hx;have:=Hno.out x (by rw[hke,List.take_length];exact hx);simpa using this)
   go_wp2_with fail;go_ret;exact⟨xv Hr.out.symm,by exact jX⟩
theorem zly(A Bf:Option Addr)(a b:Nat)(S:Sp)(w:World)(h:SRd w S A Bf)(h4:S.fs.length<=64):
 Calls Tryz.prog 103 #[spV S A a Bf b] w fun r w'=>(∃z:Nat,r= .returned (.int .i64 (z:Int))∧z<=64)∧Ext w w':=by
 have hf:=zdu S.fs S.fs.length;have ee:((S.fs.length-(frK S.fs S.fs.length).length:Nat):Int)=(S.fs.length:Int) -((frK S.fs S.fs.length).length:Int):=by omega
 unfold spV;go_enter Tryz.func103,Tryz.ntmps103;go_wp2;refine jRE [(true,0),(true,1),(true,2),(true,3),(false,4),(true,5),(true,6),(true,7)] Tryz.mixed fun hx=> ?_
 repeat(first
  |refine jLE hx ?_
  |refine jLS ?_
  |(refine yo hx (fun K hK=> ?_);go_simp;go_at_call 92;refine(qT A Bf a b S _ (h.ext (Ext.trans jX (Ext.trans hx jX))) h4).mono ?_;rintro e w1 ⟨D,c,rfl,hD,hE1⟩;refine hK _ _ (hE1) ?_;clear hK hx;intro hx;refine jq ?_)
  |(refine yo hx (fun K hK=> ?_);go_simp;(first|refine hK _ _ jX ?_|refine hK undef _ jX ?_);clear hK hx;intro hx;try refine jq ?_))
 refine zH ?_;go_wp2;go_ret;exact⟨⟨S.fs.length-(frK S.fs S.fs.length).length,by rw[ee];rfl,by omega⟩,by exact jX⟩
theorem zim{S:Sp}{L:List Ch}{x:Ch}{B i j:Nat}(h:Chs S L)(hx:x∈L)(hB:2^S.sh=B)(hi:i<x.c.length*B)(hj:j<x.c.length*B)(hij:i≠j):zy x.c B i≠zy x.c B j:=fun e=>by
 have hb:=(yG h.sh).1;rw[hB]at hb;exact hij (qx h (by omega) hx hx hi hj e).2
structure MkI(ws:List Int)(S:Sp)(c:List Nat)(B p:Nat)(z:Int)(k:Nat):Prop where
 h0:ws[zy c B p]? =some z
 hz: ∀j,1<=j->j<k->ws[zy c B (p+j)]? =some 0
 ho: ∀t,(∀j,j<k->t≠zy c B (p+j)) ->ws[t]? =S.ws[t]?
theorem MkI.start{S:Sp}{c:List Nat}{B p:Nat}(h:zy c B p<S.ws.length)(z:Int):MkI (S.ws.set (zy c B p) z) S c B p z 1:=
 ⟨by simp[h],fun j h1 h2=>by omega,fun t ht=>List.getElem?_set_ne (fun e=>ht 0 (by omega) e.symm)⟩
theorem MkI.step{ws:List Int}{S:Sp}{c:List Nat}{B p k:Nat}{z:Int}(h:MkI ws S c B p z k)(hl:zy c B (p+k)<ws.length)(hn: ∀j,j<k->zy c B (p+j)≠zy c B (p+k))(hk:0<k:=by omega):MkI (ws.set (zy c B (p+k)) 0) S c B p z (k+1):=by
 refine⟨?_,fun j h1 h2=> ?_,fun t ht=> ?_⟩
 ·have h0:=hn 0 hk
  rw[Nat.add_zero]at h0;rw[List.getElem?_set_ne (fun e=>h0 e.symm)];exact h.h0
 ·rcases Nat.lt_or_ge j k with hlt|hge
  ·rw[List.getElem?_set_ne (fun e=>hn j hlt e.symm)]
   exact h.hz j h1 hlt
  ·have:j=k:=by omega
   subst this;simp[hl]
 ·rw[List.getElem?_set_ne (fun e=>ht k (by omega) e.symm)]
  exact h.ho t (fun j hj=>ht j (by omega))
def zr0(w:World)(base gW cW gF cF:Nat)(S:Sp)(L:List Ch)(x:Ch)(B p r d:Nat)(e:Ending)(w':World):Prop:= ∃ws:List Int,e= .returned (.int .i64 0)∧ws.length=S.ws.length∧Chs ⟨S.sh,ws,S.fs⟩ L∧SOw w' base ⟨S.sh,ws,S.fs⟩ gW cW gF cF∧But [gW] w w'∧MkI ws S x.c B p (hd r d) (r+d+1)
theorem zoy(gW cW gF cF base:Nat)(S:Sp)(L:List Ch)(x:Ch)(B p r d:Nat)(w:World)(h:SOw w base S gW cW gF cF)(hS:Chs S L)(hx:x∈L)(hB:2^S.sh=B)(hp:p+(r+d)<x.c.length*B)(hr:r<=15)(hd':d<=32):
 Calls Tryz.prog 77 #[spV S (some ⟨gW,0,none⟩) cW (some ⟨gF,0,none⟩) cF,.int .i64 (zy x.c B p:Nat),.int .i64 r,.int .i64 d] w (zr0 w base gW cW gF cF S L x B p r d):=by
 unfold spV;have hlt:=h.lt;have hb2:=(yG hS.sh).2;rw[hB]at hb2;have hwl:=hS.wl;rw[hB]at hwl;have hfB:S.fs.length*B<=64*256:=Nat.mul_le_mul (by have:=hS.n2.2;omega) hb2;have hwS:S.ws.length<=20000:=by omega
 have ht0:=(Chs.word hS hx hB (p:=p) (by omega) 0).1;have hw0:S.ws[zy x.c B p]? =some (S.ws[zy x.c B p]'ht0):=List.getElem?_eq_getElem ht0;generalize S.ws[zy x.c B p]'ht0=zw at hw0;obtain⟨t0,htt⟩: ∃t0,zy x.c B p=t0:=⟨_,rfl⟩;rw[htt]at hw0 ht0|-;have ht0I:(t0:Int)<S.ws.length:=by omega
 have Hw:=Lib.hid hw0;have Ht:=Lib.hid htt;have HS:=Lib.hid hS;have Hx:=Lib.hid hx;have HB:=Lib.hid hB;clear hw0 htt hS hx hB hwl;go_enter Tryz.func77,Tryz.ntmps77;go_upto_region 4 with(first|(go_at_call 54;refine(zox r d _ hr hd').mono ?_;rintro e w1 ⟨rfl,rfl⟩));obtain⟨z,hz⟩: ∃z,hd r d=z:=⟨_,rfl⟩;rw[hz];have Hz:=Lib.hid hz;clear hz;have kS:Blk (w.alloc (.cells #[.int .i64 S.sh,.slice (some ⟨gW,0,none⟩) S.ws.length cW,.slice (some ⟨gF,0,none⟩) S.fs.length cF] 29)) w.heap.size 29 #[.int .i64 S.sh,.slice (some ⟨gW,0,none⟩) S.ws.length cW,.slice (some ⟨gF,0,none⟩) S.fs.length cF]:=Blk.new rfl;have hE0:Ext w (w.alloc (.cells #[.int .i64 S.sh,.slice (some ⟨gW,0,none⟩) S.ws.length cW,.slice (some ⟨gF,0,none⟩) S.fs.length cF] 29)):=by exact jX
 generalize w.alloc (.cells #[.int .i64 S.sh,.slice (some ⟨gW,0,none⟩) S.ws.length cW,.slice (some ⟨gF,0,none⟩) S.fs.length cF] 29)=W at kS hE0|-;obtain⟨b0,hb0⟩: ∃b0,w.heap.size=b0:=⟨_,rfl⟩;rw[hb0]at kS|-;have hg1:b0≠gW:=by omega
 have Hb0:=Lib.hid hb0;clear hb0;have cS:=kS.cell;have lS:=kS.lt;go_wp2_with(first|(go_at_call 65;refine(vV _ _ cW cF ⟨S.sh,S.ws,S.fs⟩ L x B p (r+d) t0 _ _ _ ((h.ext hE0).rd) HS.out Hx.out HB.out hp (by omega) Ht.out rfl).mono ?_;rintro e w1 ⟨rfl,hE1⟩;have kS1:=kS.ext hE1;have cS1:=kS1.cell;have lS1:=kS1.lt;have hO1:=h.ext (hE0.trans hE1);obtain⟨bW,oW,he,z0⟩:=xw hO1.rd.W Hw.out;simp only[Option.some.injEq,Addr.mk.injEq,and_true]at he;obtain⟨rfl,rfl⟩:=he;simp only[Nat.zero_add]at z0;have fW:=(zz hO1.W).2;have lW:=zh z0));clear cS lS cS1 lS1 z0 lW fW;have hO:=hO1.word t0 z;have hC:=Lib.hid (Chs.word HS.out Hx.out HB.out (p:=p) (by omega) z).2;rw[Ht.out]at hC;go_loopw [13] (fun s wr=> ∃(k:Nat) (ws:List Int),1<=k∧k<=r+d+1∧s= .int .i64 k∧ws.length=S.ws.length∧Chs ⟨S.sh,ws,S.fs⟩ L∧SOw wr base ⟨S.sh,ws,S.fs⟩ gW cW gF cF∧But [gW] w wr∧MkI ws S x.c B p z k∧Blk wr b0 29 #[.int .i64 S.sh,.slice (some ⟨gW,0,none⟩) S.ws.length cW,.slice (some ⟨gF,0,none⟩) S.fs.length cF]) (fun s _=>r+d+1-(intOf s).toNat);case atStart=>exact⟨1,S.ws.set t0 z,by omega,by omega,rfl,by simp,hC.out,hO,But.setCell ((hE0.trans hE1).but _) (by simp) _,by rw[<-Ht.out];exact MkI.start (by rw[Ht.out];exact ht0) z,kS1.far hg1 _⟩
 case round=>
  clear kS hE0 hE1 kS1 hO1 hO hC;obtain⟨k,ws,hk1,hk2,rfl,hwl,hC0,hO,hB0,hI,kS⟩:=hrel;have HI:=Lib.hid hI;clear hI;have hC:=Lib.hid hC0;have Hwl:=Lib.hid hwl;rw[<-hwl]at kS;have hwa:ws.length<=20000:=by omega
  clear hC0;by_cases hlt:k<=r+d
  ·have d1:decide ((k:Int)<=(r:Int)+d)=true:=by(first|omega|(simp;done)|(simp;omega))
   have hcw:=(Chs.word hC.out Hx.out HB.out (p:=p+k) (by omega) 0);obtain⟨ht1,hC2⟩:=hcw;have hw1:ws[zy x.c B (p+k)]? =some (ws[zy x.c B (p+k)]'ht1):=List.getElem?_eq_getElem ht1;generalize ws[zy x.c B (p+k)]'ht1=zk at hw1;have HC2:=Lib.hid hC2;simp only at ht1;obtain⟨t1,htt⟩: ∃t1,zy x.c B (p+k)=t1:=⟨_,rfl⟩;rw[htt]at hw1 ht1;have Hw:=Lib.hid hw1;have Ht1:=Lib.hid htt;have ht1I:(t1:Int)<ws.length:=by omega
   have cS:=kS.cell;have lS:=kS.lt;clear hw1 htt hC2 hwl;go_wp2_with(first|(go_at_call 65;refine(vV _ _ cW cF ⟨S.sh,ws,S.fs⟩ L x B p k t0 t1 _ _ (hO.rd) hC.out Hx.out HB.out (by omega) rfl Ht.out Ht1.out).mono ?_;rintro e w1 ⟨rfl,hE1⟩;have kS1:=kS.ext hE1;have cS1:=kS1.cell;have lS1:=kS1.lt;have hO1:=hO.ext hE1;obtain⟨bW,oW,he,z0⟩:=xw hO1.rd.W Hw.out;simp only[Option.some.injEq,Addr.mk.injEq,and_true]at he;obtain⟨rfl,rfl⟩:=he;simp only[Nat.zero_add]at z0;have fW:=(zz hO1.W).2;have lW:=zh z0));go_roundw
   case rel=>
    have hC3:=HC2.out;rw[Ht1.out]at hC3;exact⟨k+1,ws.set t1 0,by omega,by omega,by go_num,by simpa using Hwl.out,hC3,hO1.word t1 0,But.setCell (hB0.trans (hE1.but _)) (by simp) _,by rw[<-Ht1.out];exact HI.out.step (by rw[Ht1.out];exact ht1) (fun j hj=>zim HS.out Hx.out HB.out (by omega) (by omega) (by omega)),by rw[<-Hwl.out];exact kS1.far hg1 _⟩
   case measure=>simp[intOf];omega
  ·have d1:decide ((k:Int)<=(r:Int)+d)=false:=by(first|omega|(simp;done)|(simp;omega))
   clear hwl;go_wp2;go_ret;have hI:=HI.out;rw[show k=r+d+1 by omega]at hI;refine⟨ws,rfl,Hwl.out,hC.out,hO,hB0,?_⟩;rw[Hz.out];exact hI
end Go.Proofs.YtopcdfbplknmlaaGreat
