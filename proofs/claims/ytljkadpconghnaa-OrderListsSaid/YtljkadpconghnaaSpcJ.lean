/- The walk of bump.Grow (reference). Conditions: the ranges that each theorem states. -/
import Derived.Test.YtljkadpconghnaaSpcI
namespace Go.Proofs.Ytljkadpconghnaa
open Go.RowKit Go.Draw

theorem But.fresh {S : List Nat} {a w : World} (h : But S a w) {p : Addr} (hp : a.heap.size ≤ p.block) (u : Value) : But S a (w.setCell p u) :=
  ⟨h.os, h.tape, h.output, by simpa [World.setCell] using h.size, fun k hk hn => by
    rw [RowKit.Below.heap_setCell _ _ _ _ (fun e => by omega)]
    exact h.block k hk hn⟩
theorem go_from (A Bf : Option Addr) (a b : Nat) (S : Sp) (L : List Ch) (x : Ch) (z : Int) (g B k : Nat) (w : World) (h : SRd w S A Bf) (hS : Chs S L) (hx : x ∈ L) (hB : 2 ^ S.sh = B) (hg : x.c[0]? = some g) (hz : z = (g : Int) * (B : Int)) (hp : k < x.c.length * B) :
    Calls Try.prog 62 #[spV S A a Bf b, .int .i64 z, .int .i64 k] w (RetAddr w (addrN x.c B k)) := by
  have hb1 := (pow_bd hS.sh).1
  rw [hB] at hb1
  have h0 : addrN x.c B 0 = g * B := by rw [addr_eq hg (show 0 < B by omega) (show 0 * B + 0 = 0 by omega)]; omega
  have e : z = ((addrN x.c B 0 : Nat) : Int) := by rw [h0, hz, Int.natCast_mul]
  subst e
  have := go_any A Bf a b S L x B 0 k w h hS hx hB (by omega)
  rwa [Nat.zero_add] at this

def NoRoom (w : World) (r : Ending) (w' : World) : Prop := r = .returned (.tuple #[.agg #[.int .i64 0, .int .i64 0, .int .i64 0, .int .i64 0, .int .i64 0], .int .i64 0, .int .i64 4]) ∧ Ext w w'
/-- the increment has become y, of n words more -/
def Grown (w : World) (base gW cW gF cF : Nat) (S : Sp) (L : List Ch) (x : Ch) (wd n B : Nat) (r : Ending) (w' : World) : Prop :=
  ∃ (fs : List Fr) (c : List Nat), r = .returned (.tuple #[.agg #[.int .i64 x.q, .int .i64 x.b, .int .i64 (posI c 0), .int .i64 (lastI c), .int .i64 ((wd + n : Nat) : Int)], .int .i64 (addrN c B wd : Nat), .int .i64 0]) ∧ fs.length = S.fs.length ∧ ceilN (wd + n) B = c.length ∧ (∃ d, c = x.c ++ d) ∧ Chs ⟨S.sh, S.ws, fs⟩ (⟨x.q, x.b, c⟩ :: L) ∧ SOw w' base ⟨S.sh, S.ws, fs⟩ gW cW gF cF ∧ But [gF] w w'
def RetGrow (w : World) (base gW cW gF cF : Nat) (S : Sp) (L : List Ch) (x : Ch) (wd n B : Nat) (r : Ending) (w' : World) : Prop := NoRoom w r w' ∨ Grown w base gW cW gF cF S L x wd n B r w'
theorem extra_gen (A Bf : Option Addr) (a b : Nat) (S : Sp) (x : Ch) (wd n B : Nat) (f l q b1 : Int) (w : World) (h1 : 3 ≤ S.sh ∧ S.sh ≤ 8) (hB : 2 ^ S.sh = B) (hw : wd ≤ 100000) (hn : n ≤ 1000) (hq : q = x.q) (hb : b1 = x.b) (hf : f = posI x.c 0) (hl : l = lastI x.c) :
    Calls Try.prog 59 #[spV S A a Bf b, .agg #[.int .i64 q, .int .i64 b1, .int .i64 f, .int .i64 l, .int .i64 wd], .int .i64 n] w fun r w' => r = .returned (.int .i64 ((ceilN (wd + n) B : Nat) - (ceilN wd B : Nat) : Int)) ∧ Ext w w' := by
  subst hq hb hf hl
  exact extra_any A Bf a b S x wd n B w h1 hB hw hn

theorem SOw.far {w : World} {base gW cW gF cF : Nat} {S : Sp} (h : SOw w base S gW cW gF cF) {p : Addr} (h1 : gW ≠ p.block) (h2 : gF ≠ p.block) (u : Value) : SOw (w.setCell p u) base S gW cW gF cF := ⟨own_other h.W h1 u, own_other h.F h2 u⟩
theorem link_own {w : World} {base gW cW gF cF : Nat} {S : Sp} {L : List Ch} {x : Ch} {i g : Nat} {F : Fr} (hS : Chs S (x :: L)) (hF : S.fs[i]? = some F) (ho : F.o = -1) (hg : x.c[x.c.length - 1]? = some g) (h : SOw w base (S.setF i ⟨x.q, x.st, -1⟩) gW cW gF cF) :
    SOw (w.setCell ⟨gF, g * 3 + 2, none⟩ (.int .i64 (i : Int))) base { S with fs := linkF S.fs x.c i x.q x.st } gW cW gF cF := by
  have h1 := own_set h.F (g * 3 + 2) (.int .i64 (i : Int))
  have h2 := own_other h.W (p := ⟨gF, g * 3 + 2, none⟩) h.ne (.int .i64 (i : Int))
  simp only [Sp.setF, List.length_set] at h1 h2
  rw [frs_link hS hF ho hg] at h1
  refine ⟨h2, ?_⟩
  simpa only [linkF_len] using h1
theorem used_cons {x : Ch} {L : List Ch} : (used (x :: L)).length = x.c.length + (used L).length := by simp [used]
set_option maxRecDepth 100000 in
set_option maxHeartbeats 4000000 in
theorem grow_any (gW cW gF cF base : Nat) (S : Sp) (L : List Ch) (x : Ch) (wd n B : Nat) (w : World) (h : SOw w base S gW cW gF cF) (hS : Chs S (x :: L)) (hB : 2 ^ S.sh = B) (hwd : ceilN wd B = x.c.length) (h1 : 1 ≤ n) (h2 : n ≤ 48) (hbase : base ≤ w.heap.size) :
    Calls Try.prog 44 #[spV S (some ⟨gW, 0, none⟩) cW (some ⟨gF, 0, none⟩) cF, incV x wd, .int .i64 n] w (RetGrow w base gW cW gF cF S L x wd n B) := by
  have hsh := hS.sh
  have hb1 := (pow_bd hS.sh).1
  have hb2 := (pow_bd hS.sh).2
  rw [hB] at hb1 hb2
  obtain ⟨hn1, hn2⟩ := hS.n2
  obtain ⟨hx1, hx2, hx3, hx4⟩ := hS.ids x List.mem_cons_self
  have hlc := hS.len_ch List.mem_cons_self
  have hw1 := ceil_mul (n := 64) (B := B) (wd := wd) (by omega) (by omega)
  have hfB : 64 * B ≤ 64 * 256 := Nat.mul_le_mul (by omega) hb2
  have hwb : wd ≤ 100000 := by omega
  have hnb : n ≤ 1000 := by omega
  have hmono : ceilN wd B ≤ ceilN (wd + n) B := Nat.div_le_div_right (by omega)
  have hfr := hS.frees
  have hcl := ceilN_le (wd + n) B (by omega)
  obtain ⟨K, hK⟩ : ∃ K, ceilN (wd + n) B = ceilN wd B + K := ⟨_, (Nat.add_sub_cancel' hmono).symm⟩
  have hKI : ((ceilN (wd + n) B : Nat) : Int) - (ceilN wd B : Nat) = (K : Int) := by omega
  have HK := Lib.hid hK
  have Hwd := Lib.hid hwd
  have HS := Lib.hid hS
  have Hfr := Lib.hid hfr
  have hfl := frK_len S.fs S.fs.length
  have hlt := h.lt
  clear hK hwd hS hfr hmono
  unfold spV incV
  go_enter Try.func44, Try.ntmps44
  go_upto_region 1 with fail
  have kS : Blk (((w.alloc (.cells #[.int .i64 S.sh, .slice (some ⟨gW, 0, none⟩) S.ws.length cW, .slice (some ⟨gF, 0, none⟩) S.fs.length cF] 35)).alloc (.cells #[.int .i64 x.q, .int .i64 x.b, .int .i64 (posI x.c 0), .int .i64 (lastI x.c), .int .i64 wd] 24)).alloc (.cells #[.int .i64 0, .int .i64 0, .int .i64 0, .int .i64 0, .int .i64 0] 24)) w.heap.size 35 #[.int .i64 S.sh, .slice (some ⟨gW, 0, none⟩) S.ws.length cW, .slice (some ⟨gF, 0, none⟩) S.fs.length cF] := Blk.alloc (Blk.alloc (Blk.new rfl) _) _
  have kI : Blk (((w.alloc (.cells #[.int .i64 S.sh, .slice (some ⟨gW, 0, none⟩) S.ws.length cW, .slice (some ⟨gF, 0, none⟩) S.fs.length cF] 35)).alloc (.cells #[.int .i64 x.q, .int .i64 x.b, .int .i64 (posI x.c 0), .int .i64 (lastI x.c), .int .i64 wd] 24)).alloc (.cells #[.int .i64 0, .int .i64 0, .int .i64 0, .int .i64 0, .int .i64 0] 24)) (w.heap.size + 1) 24 #[.int .i64 x.q, .int .i64 x.b, .int .i64 (posI x.c 0), .int .i64 (lastI x.c), .int .i64 wd] := Blk.alloc (Blk.new (by simp)) _
  have kR : Blk (((w.alloc (.cells #[.int .i64 S.sh, .slice (some ⟨gW, 0, none⟩) S.ws.length cW, .slice (some ⟨gF, 0, none⟩) S.fs.length cF] 35)).alloc (.cells #[.int .i64 x.q, .int .i64 x.b, .int .i64 (posI x.c 0), .int .i64 (lastI x.c), .int .i64 wd] 24)).alloc (.cells #[.int .i64 0, .int .i64 0, .int .i64 0, .int .i64 0, .int .i64 0] 24)) (w.heap.size + 1 + 1) 24 #[.int .i64 0, .int .i64 0, .int .i64 0, .int .i64 0, .int .i64 0] := Blk.new (by simp)
  have hEW : Ext w (((w.alloc (.cells #[.int .i64 S.sh, .slice (some ⟨gW, 0, none⟩) S.ws.length cW, .slice (some ⟨gF, 0, none⟩) S.fs.length cF] 35)).alloc (.cells #[.int .i64 x.q, .int .i64 x.b, .int .i64 (posI x.c 0), .int .i64 (lastI x.c), .int .i64 wd] 24)).alloc (.cells #[.int .i64 0, .int .i64 0, .int .i64 0, .int .i64 0, .int .i64 0] 24)) := by (repeat (first | (with_reducible exact Ext.refl _) | assumption | (with_reducible refine Ext.alloc ?_ _) | (with_reducible refine Ext.drew ?_) | (with_reducible refine Ext.drewL ?_) | refine Ext.trans ?_ (by assumption)))
  generalize ((w.alloc (.cells #[.int .i64 S.sh, .slice (some ⟨gW, 0, none⟩) S.ws.length cW, .slice (some ⟨gF, 0, none⟩) S.fs.length cF] 35)).alloc (.cells #[.int .i64 x.q, .int .i64 x.b, .int .i64 (posI x.c 0), .int .i64 (lastI x.c), .int .i64 wd] 24)).alloc (.cells #[.int .i64 0, .int .i64 0, .int .i64 0, .int .i64 0, .int .i64 0] 24) = W at kS kI kR hEW ⊢
  obtain ⟨b0, hb0⟩ : ∃ b0, w.heap.size = b0 := ⟨_, rfl⟩
  rw [hb0] at kS kI kR ⊢
  have Hb0 := Lib.hid hb0
  clear hb0
  have cS := kS.cell
  have lS := kS.lt
  have cI := kI.cell
  have lI := kI.lt
  by_cases hroom : K ≤ (frK S.fs S.fs.length).length
  · have d1 : decide (((frK S.fs S.fs.length).length : Int) < K) = false := by (first | omega | (simp; done) | (simp; omega))
    have d1' : decide ((frK S.fs S.fs.length).length < K) = false := by (first | omega | (simp; done) | (simp; omega))
    go_upto_region 4 with (first | (go_at_call 59; refine (extra_any _ _ cW cF S x wd n B _ hsh hB hwb hnb).mono ?_; rintro e w1 ⟨rfl, hE1⟩; have kS1 := kS.ext hE1; have kI1 := kI.ext hE1; have kR1 := kR.ext hE1; have cS1 := kS1.cell; have lS1 := kS1.lt; have cI1 := kI1.cell; have lI1 := kI1.lt) | (go_at_call 60; refine (free_any _ _ cW cF S _ ((h.ext (hEW.trans hE1)).rd) hn2).mono ?_; rintro e w1 ⟨D, d, rfl, hD, hE2⟩; have kS2 := kS1.ext hE2; have kI2 := kI1.ext hE2; have kR2 := kR1.ext hE2; have cS2 := kS2.cell; have lS2 := kS2.lt; have cI2 := kI2.cell; have lI2 := kI2.lt; have cR2 := kR2.cell; have fR2 := kR2.froz; have lR2 := kR2.lt))
    clear cS lS cI lI kS kI kR kS1 kI1 kR1 cS1 lS1 cI1 lI1 hD d1 d1'
    have hE0 := (hEW.trans hE1).trans hE2
    go_wp2_with fail
    clear cS2 lS2 cI2 lI2
    go_loopw [9] (fun s wr => ∃ (j : Nat) (fs : List Fr) (c : List Nat), j ≤ K ∧ s = .int .i64 j ∧ fs.length = S.fs.length ∧ c.length + j = x.c.length + K ∧ (∃ d, c = x.c ++ d) ∧ Chs ⟨S.sh, S.ws, fs⟩ (⟨x.q, x.b, c⟩ :: L) ∧ SOw wr base ⟨S.sh, S.ws, fs⟩ gW cW gF cF ∧ But [gF] w wr ∧
      Blk wr b0 35 #[.int .i64 S.sh, .slice (some ⟨gW, 0, none⟩) S.ws.length cW, .slice (some ⟨gF, 0, none⟩) S.fs.length cF] ∧ Blk wr (b0 + 1) 24 #[.int .i64 x.q, .int .i64 x.b, .int .i64 (posI c 0), .int .i64 (lastI c), .int .i64 wd] ∧
      Blk wr (b0 + 1 + 1) 24 #[.int .i64 0, .int .i64 0, .int .i64 0, .int .i64 0, .int .i64 0]) (fun s _ => (intOf s).toNat)
    case atStart => exact ⟨K, S.fs, x.c, by omega, rfl, rfl, rfl, ⟨[], by simp⟩, HS.out, h.ext hE0, hE0.but _, kS2, kI2, kR2⟩
    case round =>
      clear kS2 kI2 kR2 cR2 fR2 lR2 hE0 hE1 hE2 hEW
      obtain ⟨j, fs, c, hj0, rfl, hfl2, hcl2, hpre, hC, hO, hBw, kS, kI, kR⟩ := hrel
      have hC2 := Lib.hid hC
      have Hpre := Lib.hid hpre
      have hb0 := Hb0.out
      have hn0 : b0 ∉ [gF] := by simp; omega
      have hn1' : b0 + 1 ∉ [gF] := by simp; omega
      have hn2' : b0 + 1 + 1 ∉ [gF] := by simp; omega
      have hfs64 : fs.length ≤ 64 := by omega
      have hszw := hBw.size
      have hfa : fs.length ≤ S.fs.length := by omega
      have hfb : S.fs.length ≤ fs.length := by omega
      have Hfl2 := Lib.hid hfl2
      have Hcl2 := Lib.hid hcl2
      have hjc : c.length + j ≤ x.c.length + K := by omega
      have hjc2 : x.c.length + K ≤ c.length + j := by omega
      rw [← hfl2] at kS
      clear hb0 hC hpre hfl2 hcl2
      by_cases hj : 0 < j
      · have dj : decide ((0 : Int) < j) = true := by simp; omega
        have dj' : decide (0 < j) = true := by simp; omega
        have hfr := hC2.out.frees
        have hfr2 := Hfr.out
        rw [used_cons] at hfr hfr2
        simp only at hfr
        obtain ⟨i, hi, hjm⟩ := first_free (fs := fs) (by omega)
        obtain ⟨F, hF, ho⟩ := hi
        have hil := (List.getElem?_eq_some_iff.1 hF).1
        have Hi := Lib.hid (show ∃ F, (⟨S.sh, S.ws, fs⟩ : Sp).fs[i]? = some F ∧ F.o = -1 from ⟨F, hF, ho⟩)
        have Hj := Lib.hid (show ∀ j F, j < i → (⟨S.sh, S.ws, fs⟩ : Sp).fs[j]? = some F → F.o ≠ -1 from hjm)
        have cS := kS.cell
        have lS := kS.lt
        have cI := kI.cell
        have lI := kI.lt
        have Hpush := Lib.hid (Chs.push hC2.out hF ho)
        clear hfr hfr2 hjm
        by_cases hc : c = []
        · subst hc
          have HF := Lib.hid hF
          have Ho := Lib.hid ho
          clear hF ho
          have kI' : Blk wr (b0 + 1) 24 #[.int .i64 x.q, .int .i64 x.b, .int .i64 (-1), .int .i64 (-1), .int .i64 wd] := kI
          clear kI
          have kI := kI'
          have cI := kI.cell
          clear kI'
          go_wp2_with (first | (go_at_call 61; refine (lift_any gW cW gF cF base ⟨S.sh, S.ws, fs⟩ x.q x.b i _ hO hfs64 Hi.out Hj.out hx1 hx2 hx3 hx4).mono ?_; rintro e w1 ⟨rfl, hO1, hB1⟩; have kS1 := kS.but hB1 hn0; have kI1 := kI.but hB1 hn1'; have kR1 := kR.but hB1 hn2'; have cS1 := kS1.cell; have lS1 := kS1.lt; have cI1 := kI1.cell; have fI1 := kI1.froz; have lI1 := kI1.lt))
          go_roundw
          case rel =>
            have hb0 := Hb0.out
            refine ⟨j - 1, linkF fs [] i x.q (x.b * 4294967296 + x.q), [] ++ [i], by omega, by rw [show ((j - 1 : Nat) : Int) = (j : Int) - 1 by omega], (linkF_len _ _ _ _ _).trans Hfl2.out, by have := Hcl2.out; simp at this ⊢; omega, ?_, Hpush.out, ?_, ?_, ?_, ?_, ?_⟩
            · obtain ⟨d, hd⟩ := Hpre.out
              exact ⟨d ++ [i], by rw [← List.append_assoc, ← hd]⟩
            · refine SOw.far (SOw.far ?_ (by simp; omega) (by simp; omega) _) (by simp; omega) (by simp; omega) _
              exact hO1
            · exact But.fresh (But.fresh (hBw.trans hB1) (by simp; omega) _) (by simp; omega) _
            · rw [← Hfl2.out]
              exact (kS1.far (by simp) _).far (by simp) _
            · exact (kI1.set_ 2 _).set_ 3 _
            · exact (kR1.far (by simp) _).far (by simp) _
          case measure => simp [intOf]; omega
        · have hl : 0 < c.length := List.length_pos_iff.2 hc
          have hg : c[c.length - 1]? = some c[c.length - 1] := List.getElem?_eq_getElem (by omega)
          generalize c[c.length - 1]'(by omega) = g at hg
          have hgn := hC2.out.fr _ List.mem_cons_self _ g hg
          have hgl := (List.getElem?_eq_some_iff.1 hgn).1
          have hgi : g ≠ i := fun e => (hC2.out.notin hF ho) (by subst e; exact mem_used.2 ⟨_, List.mem_cons_self, _, hg⟩)
          simp only at hgl
          have Hgl := Lib.hid (show (Sp.setF ⟨S.sh, S.ws, fs⟩ i ⟨x.q, x.b * 4294967296 + x.q, -1⟩).fs[g]? = some ⟨x.q, Ch.st ⟨x.q, x.b, c⟩, posI c (c.length - 1 + 1)⟩ by
            simp only [Sp.setF]
            rw [List.getElem?_set, if_neg (fun e => hgi e.symm)]
            exact hgn)
          have hgI : (g : Int) < fs.length := by omega
          have hp0 : posI c 0 = ((c[0]'hl : Nat) : Int) := posI_some (List.getElem?_eq_getElem hl)
          generalize c[0]'hl = g00 at hp0
          have hpl : lastI c = (g : Int) := posI_some hg
          rw [hp0, hpl] at kI
          have cI := kI.cell
          have hne : ((g00 : Int) == -1) = false := by simp
          have HF := Lib.hid hF
          have Ho := Lib.hid ho
          have Hg := Lib.hid hg
          have Hp0 := Lib.hid hp0
          clear hF ho hg hgn hp0 hpl hgi hc
          go_wp2_with (first | (go_at_call 61; refine (lift_any gW cW gF cF base ⟨S.sh, S.ws, fs⟩ x.q x.b i _ hO hfs64 Hi.out Hj.out hx1 hx2 hx3 hx4).mono ?_; rintro e w1 ⟨rfl, hO1, hB1⟩; have kS1 := kS.but hB1 hn0; have kI1 := kI.but hB1 hn1'; have kR1 := kR.but hB1 hn2'; have cS1 := kS1.cell; have lS1 := kS1.lt; have cI1 := kI1.cell; have fI1 := kI1.froz; have lI1 := kI1.lt; have fF1 := (own_cells hO1.F).2; obtain ⟨bG, oG, he, g0, g1, g2⟩ := fr_at hO1.rd.F Hgl.out; simp only [Option.some.injEq, Addr.mk.injEq, and_true] at he; obtain ⟨rfl, rfl⟩ := he; simp only [Nat.zero_add] at g0 g1 g2; have lG := cell_lt g0))
          go_roundw
          case rel =>
            have hb0 := Hb0.out
            have hlk := link_own hC2.out HF.out Ho.out Hg.out hO1
            refine ⟨j - 1, linkF fs c i x.q (x.b * 4294967296 + x.q), c ++ [i], by omega, by rw [show ((j - 1 : Nat) : Int) = (j : Int) - 1 by omega], (linkF_len _ _ _ _ _).trans Hfl2.out, by have := Hcl2.out; simp at this ⊢; omega, ?_, Hpush.out, ?_, ?_, ?_, ?_, ?_⟩
            · obtain ⟨d, hd⟩ := Hpre.out
              exact ⟨d ++ [i], by rw [← List.append_assoc, ← hd]⟩
            · exact SOw.far hlk (by simp; omega) (by simp; omega) _
            · exact But.fresh (But.setCell (hBw.trans hB1) (by simp) _) (by simp; omega) _
            · rw [← Hfl2.out]
              exact (kS1.far (by simp; omega) _).far (by simp) _
            · rw [posI_app hl, Hp0.out, lastI_app]
              exact (kI1.far (by simp; omega) _).set_ 3 _
            · exact (kR1.far (by simp; omega) _).far (by simp) _
          case measure => simp [intOf]; omega
      · have dj : decide ((0 : Int) < j) = false := by simp; omega
        have dj' : decide (0 < j) = false := by simp; omega
        obtain rfl : j = 0 := by omega
        have hcc : ceilN (wd + n) B = c.length := by have := HK.out; have := Hwd.out; have := Hcl2.out; omega
        have hl : 0 < c.length := by
          rcases Nat.eq_zero_or_pos c.length with h0 | h0
          · have := ceil_zero (wd := wd + n) (B := B) (by omega) (by omega)
            omega
          · exact h0
        have hg : c[0]? = some c[0] := List.getElem?_eq_getElem hl
        generalize c[0]'hl = g at hg
        have hp0 : posI c 0 = (g : Int) := posI_some hg
        have hgl := hC2.out.lt List.mem_cons_self hg
        simp only at hgl
        have hwc := ceil_mul (wd := wd + n) (n := c.length) (B := B) (by omega) (by omega)
        have hgB : g * B ≤ 64 * 256 := Nat.mul_le_mul (by omega) hb2
        have hgBI : (g : Int) * B ≤ 16384 := by
          have : ((g * B : Nat) : Int) ≤ 16384 := by omega
          rwa [Int.natCast_mul] at this
        have hgB0 : 0 ≤ (g : Int) * B := Int.mul_nonneg (by omega) (by omega)
        have hB' : (2 : Int) ^ S.sh = B := by rw [← hB]; simp
        have s1 : (S.sh : Int).toNat = S.sh := by omega
        have HB := Lib.hid hB
        have Hg := Lib.hid hg
        have Hp0 := Lib.hid hp0
        have Hcc := Lib.hid hcc
        rw [hp0] at kI
        clear hB hg hp0 hcc
        have hbw : gW < b0 := by have := Hb0.out; omega
        have hbf : gF < b0 := by have := Hb0.out; omega
        have cS := kS.cell
        have lS := kS.lt
        have cI := kI.cell
        have fI := kI.froz
        have hO4 := SOw.far hO (p := ⟨b0 + 1, 4, none⟩) (by simp; omega) (by simp; omega) (.int .i64 ((wd : Int) + n))
        have kR1 := kR.far (p := ⟨b0 + 1, 4, none⟩) (by simp) (.int .i64 ((wd : Int) + n))
        have lI := kI.lt
        have kI1 := kI.set_ 4 (.int .i64 ((wd : Int) + n))
        go_wp2_with (first | (go_at_call 62; refine (go_from _ _ cW cF ⟨S.sh, S.ws, fs⟩ (⟨x.q, x.b, c⟩ :: L) ⟨x.q, x.b, c⟩ _ g B wd _ hO4.rd hC2.out List.mem_cons_self HB.out Hg.out rfl (show wd < c.length * B by omega)).mono ?_; rintro e w1 ⟨rfl, hE3⟩; have kI2 := kI1.ext hE3; have kR2 := kR1.ext hE3; have cI2 := kI2.cell; have lI2 := kI2.lt; have cR2 := kR2.cell; have fR2 := kR2.froz; have lR2 := kR2.lt))
        refine bodyPost_ret (v := .tuple #[.agg #[.int .i64 x.q, .int .i64 x.b, .int .i64 g, .int .i64 (lastI c), .int .i64 ((wd : Int) + n)], .int .i64 (addrN c B wd : Nat), .int .i64 0]) (by simp [results, Try.results44, go_sem, cR2]) rfl (Or.inr ⟨fs, c, ?_, Hfl2.out, Hcc.out, Hpre.out, hC2.out, ?_, ?_⟩)
        · simp only [Hp0.out, Int.natCast_add]
        · repeat (refine SOw.far ?_ (by simp; omega) (by simp; omega) _)
          exact hO4.ext hE3
        · have hb0 := Hb0.out
          repeat (refine But.fresh ?_ (by simp; omega) _)
          exact But.trans (But.fresh hBw (by simp; omega) _) (hE3.but _)
  · have d1 : decide (((frK S.fs S.fs.length).length : Int) < K) = true := by (first | omega | (simp; done) | (simp; omega))
    have d1' : decide ((frK S.fs S.fs.length).length < K) = true := by (first | omega | (simp; done) | (simp; omega))
    go_wp2_with (first | (go_at_call 59; refine (extra_any _ _ cW cF S x wd n B _ hsh hB hwb hnb).mono ?_; rintro e w1 ⟨rfl, hE1⟩; have kS1 := kS.ext hE1; have kI1 := kI.ext hE1; have kR1 := kR.ext hE1; have cS1 := kS1.cell; have lS1 := kS1.lt; have cI1 := kI1.cell; have lI1 := kI1.lt) | (go_at_call 60; refine (free_any _ _ cW cF S _ ((h.ext (hEW.trans hE1)).rd) hn2).mono ?_; rintro e w1 ⟨D, d, rfl, hD, hE2⟩; have kS2 := kS1.ext hE2; have kI2 := kI1.ext hE2; have kR2 := kR1.ext hE2; have cS2 := kS2.cell; have lS2 := kS2.lt; have cI2 := kI2.cell; have lI2 := kI2.lt; have cR2 := kR2.cell; have fR2 := kR2.froz; have lR2 := kR2.lt))
    refine bodyPost_ret (v := .tuple #[.agg #[.int .i64 0, .int .i64 0, .int .i64 0, .int .i64 0, .int .i64 0], .int .i64 0, .int .i64 4]) (by simp [results, Try.results44, go_sem, cR2]) rfl (Or.inl ⟨rfl, ?_⟩)
    have hb0 := Hb0.out
    repeat (refine Ext.setCell ?_ (by simp; omega) _)
    exact (hEW.trans hE1).trans hE2
end Go.Proofs.Ytljkadpconghnaa
