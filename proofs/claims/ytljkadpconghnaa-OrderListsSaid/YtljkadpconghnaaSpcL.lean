/- The walks of header.Live, object.Make and object.Init (references). Conditions: the ranges that each theorem states. -/
import Derived.Test.YtljkadpconghnaaSpcK
namespace Go.Proofs.Ytljkadpconghnaa
open Go.RowKit Go.Draw

set_option maxHeartbeats 1000000 in
theorem live_any (r d : Nat) (w : World) (h1 : r ≤ 15) (h2 : d ≤ 32) :
    Calls Try.prog 64 #[.int .i64 r, .int .i64 d] w fun e w' => (∃ z : Int, e = .returned (.tuple #[.int .u64 z, .int .i64 0])) ∧ w = w' := by
  have d1 : decide ((15 : Int) < r) = false := by (first | omega | (simp; done) | (simp; omega))
  have d1' : decide (15 < r) = false := by (first | omega | (simp; done) | (simp; omega))
  have d2 : decide ((32 : Int) < d) = false := by (first | omega | (simp; done) | (simp; omega))
  have d2' : decide (32 < d) = false := by (first | omega | (simp; done) | (simp; omega))
  go_enter Try.func64, Try.ntmps64
  go_wp2
  go_ret2
  exact ⟨⟨_, rfl⟩, rfl⟩

theorem Chs.word {S : Sp} {L : List Ch} {x : Ch} {B p : Nat} (h : Chs S L) (hx : x ∈ L) (hB : 2 ^ S.sh = B) (hp : p < x.c.length * B) (z : Int) : addrN x.c B p < S.ws.length ∧ Chs ⟨S.sh, S.ws.set (addrN x.c B p) z, S.fs⟩ L := by
  have hb1 := (pow_bd h.sh).1
  rw [hB] at hb1
  obtain ⟨m, g, r, hg, hr, hmp⟩ := place_of (c := x.c) (B := B) (p := p) (by omega) hp
  rw [addr_eq hg hr hmp]
  have hgl := h.lt hx hg
  have hgu : g ∈ used L := mem_used.2 ⟨x, hx, m, hg⟩
  have hwl := h.wl
  rw [hB] at hwl
  have h1 : (g + 1) * B ≤ S.fs.length * B := Nat.mul_le_mul_right _ (by omega)
  rw [Nat.succ_mul] at h1
  refine ⟨by omega, ⟨h.sh, h.n2, by simpa using h.wl, h.ids, h.sq, h.fr, h.nd, h.free, ?_⟩⟩
  intro f hf hu j hj
  have hz := h.zero f hf hu j hj
  simp only [hB] at hz hj ⊢
  rw [List.getElem?_set, if_neg]
  · exact hz
  · intro he
    have : g = f := by
      have e1 : (g * B + r) / B = g := by rw [Nat.add_comm, Nat.add_mul_div_right _ _ (by omega), Nat.div_eq_of_lt hr]; omega
      have e2 : (f * B + j) / B = f := by rw [Nat.add_comm, Nat.add_mul_div_right _ _ (by omega), Nat.div_eq_of_lt hj]; omega
      rw [← e1, ← e2, he]
    subst this
    exact hu hgu

def RetMake (w : World) (base gW cW gF cF : Nat) (S : Sp) (L : List Ch) (r : Ending) (w' : World) : Prop := ∃ ws : List Int, r = .returned (.int .i64 0) ∧ ws.length = S.ws.length ∧ Chs ⟨S.sh, ws, S.fs⟩ L ∧ SOw w' base ⟨S.sh, ws, S.fs⟩ gW cW gF cF ∧ But [gW] w w'
theorem SOw.word {w : World} {base gW cW gF cF : Nat} {S : Sp} (h : SOw w base S gW cW gF cF) (t : Nat) (z : Int) : SOw (w.setCell ⟨gW, t, none⟩ (.int .u64 z)) base ⟨S.sh, S.ws.set t z, S.fs⟩ gW cW gF cF := by
  have h1 := own_set h.W t (.int .u64 z)
  rw [← words_set] at h1
  refine ⟨by simpa using h1, own_other h.F h.ne.symm _⟩
theorem go_nat (A Bf : Option Addr) (a b : Nat) (S : Sp) (L : List Ch) (x : Ch) (B p k t t' : Nat) (z : Int) (w : World) (h : SRd w S A Bf) (hS : Chs S L) (hx : x ∈ L) (hB : 2 ^ S.sh = B) (hp : p + k < x.c.length * B) (hz : z = (k : Int)) (ht : addrN x.c B p = t) (ht' : addrN x.c B (p + k) = t') :
    Calls Try.prog 62 #[spV S A a Bf b, .int .i64 (t : Int), .int .i64 z] w (RetAddr w t') := by
  subst hz ht ht'
  exact go_any A Bf a b S L x B p k w h hS hx hB hp
set_option maxRecDepth 100000 in
set_option maxHeartbeats 4000000 in
theorem make_any (gW cW gF cF base : Nat) (S : Sp) (L : List Ch) (x : Ch) (B p r d : Nat) (w : World) (h : SOw w base S gW cW gF cF) (hS : Chs S L) (hx : x ∈ L) (hB : 2 ^ S.sh = B) (hp : p + (r + d) < x.c.length * B) (hr : r ≤ 15) (hd : d ≤ 32) :
    Calls Try.prog 46 #[spV S (some ⟨gW, 0, none⟩) cW (some ⟨gF, 0, none⟩) cF, .int .i64 (addrN x.c B p : Nat), .int .i64 r, .int .i64 d] w (RetMake w base gW cW gF cF S L) := by
  unfold spV
  have hlt := h.lt
  have hb2 := (pow_bd hS.sh).2
  rw [hB] at hb2
  have hwl := hS.wl
  rw [hB] at hwl
  have hfB : S.fs.length * B ≤ 64 * 256 := Nat.mul_le_mul (by have := hS.n2.2; omega) hb2
  have hwS : S.ws.length ≤ 20000 := by omega
  have ht0 := (Chs.word hS hx hB (p := p) (by omega) 0).1
  have hw0 : S.ws[addrN x.c B p]? = some (S.ws[addrN x.c B p]'ht0) := List.getElem?_eq_getElem ht0
  generalize S.ws[addrN x.c B p]'ht0 = zw at hw0
  obtain ⟨t0, htt⟩ : ∃ t0, addrN x.c B p = t0 := ⟨_, rfl⟩
  rw [htt] at hw0 ht0 ⊢
  have ht0I : (t0 : Int) < S.ws.length := by omega
  have Hw := Lib.hid hw0
  have Ht := Lib.hid htt
  have HS := Lib.hid hS
  have Hx := Lib.hid hx
  have HB := Lib.hid hB
  clear hw0 htt hS hx hB hwl
  go_enter Try.func46, Try.ntmps46
  go_upto_region 4 with (first | (go_at_call 64; refine (live_any r d _ hr hd).mono ?_; rintro e w1 ⟨⟨z, rfl⟩, rfl⟩))
  have kS : Blk (w.alloc (.cells #[.int .i64 S.sh, .slice (some ⟨gW, 0, none⟩) S.ws.length cW, .slice (some ⟨gF, 0, none⟩) S.fs.length cF] 35)) w.heap.size 35 #[.int .i64 S.sh, .slice (some ⟨gW, 0, none⟩) S.ws.length cW, .slice (some ⟨gF, 0, none⟩) S.fs.length cF] := Blk.new rfl
  have hE0 : Ext w (w.alloc (.cells #[.int .i64 S.sh, .slice (some ⟨gW, 0, none⟩) S.ws.length cW, .slice (some ⟨gF, 0, none⟩) S.fs.length cF] 35)) := by (repeat (first | (with_reducible exact Ext.refl _) | assumption | (with_reducible refine Ext.alloc ?_ _) | (with_reducible refine Ext.drew ?_) | (with_reducible refine Ext.drewL ?_) | refine Ext.trans ?_ (by assumption)))
  generalize w.alloc (.cells #[.int .i64 S.sh, .slice (some ⟨gW, 0, none⟩) S.ws.length cW, .slice (some ⟨gF, 0, none⟩) S.fs.length cF] 35) = W at kS hE0 ⊢
  obtain ⟨b0, hb0⟩ : ∃ b0, w.heap.size = b0 := ⟨_, rfl⟩
  rw [hb0] at kS ⊢
  have hg1 : b0 ≠ gW := by omega
  have Hb0 := Lib.hid hb0
  clear hb0
  have cS := kS.cell
  have lS := kS.lt
  go_wp2_with (first | (go_at_call 64; refine (live_any r d _ hr hd).mono ?_; rintro e w1 ⟨⟨z, rfl⟩, rfl⟩) | (go_at_call 62; refine (go_nat _ _ cW cF ⟨S.sh, S.ws, S.fs⟩ L x B p (r + d) t0 _ _ _ ((h.ext hE0).rd) HS.out Hx.out HB.out hp (by omega) Ht.out rfl).mono ?_; rintro e w1 ⟨rfl, hE1⟩; have kS1 := kS.ext hE1; have cS1 := kS1.cell; have lS1 := kS1.lt; have hO1 := h.ext (hE0.trans hE1); obtain ⟨bW, oW, he, z0⟩ := wd_at hO1.rd.W Hw.out; simp only [Option.some.injEq, Addr.mk.injEq, and_true] at he; obtain ⟨rfl, rfl⟩ := he; simp only [Nat.zero_add] at z0; have fW := (own_cells hO1.W).2; have lW := cell_lt z0))
  clear cS lS cS1 lS1 z0 lW fW
  have hO := hO1.word t0 z
  have hC := Lib.hid (Chs.word HS.out Hx.out HB.out (p := p) (by omega) z).2
  rw [Ht.out] at hC
  go_loopw [13] (fun s wr => ∃ (k : Nat) (ws : List Int), 1 ≤ k ∧ k ≤ r + d + 1 ∧ s = .int .i64 k ∧ ws.length = S.ws.length ∧ Chs ⟨S.sh, ws, S.fs⟩ L ∧ SOw wr base ⟨S.sh, ws, S.fs⟩ gW cW gF cF ∧ But [gW] w wr ∧ Blk wr b0 35 #[.int .i64 S.sh, .slice (some ⟨gW, 0, none⟩) S.ws.length cW, .slice (some ⟨gF, 0, none⟩) S.fs.length cF]) (fun s _ => r + d + 1 - (intOf s).toNat)
  case atStart => exact ⟨1, S.ws.set t0 z, by omega, by omega, rfl, by simp, hC.out, hO, But.setCell ((hE0.trans hE1).but _) (by simp) _, kS1.far hg1 _⟩
  case round =>
    clear kS hE0 hE1 kS1 hO1 hO hC
    obtain ⟨k, ws, hk1, hk2, rfl, hwl, hC0, hO, hB0, kS⟩ := hrel
    have hC := Lib.hid hC0
    have Hwl := Lib.hid hwl
    rw [← hwl] at kS
    have hwa : ws.length ≤ 20000 := by omega
    clear hC0
    by_cases hlt : k ≤ r + d
    · have d1 : decide ((k : Int) ≤ (r : Int) + d) = true := by (first | omega | (simp; done) | (simp; omega))
      have hcw := (Chs.word hC.out Hx.out HB.out (p := p + k) (by omega) 0)
      obtain ⟨ht1, hC2⟩ := hcw
      have hw1 : ws[addrN x.c B (p + k)]? = some (ws[addrN x.c B (p + k)]'ht1) := List.getElem?_eq_getElem ht1
      generalize ws[addrN x.c B (p + k)]'ht1 = zk at hw1
      have HC2 := Lib.hid hC2
      simp only at ht1
      obtain ⟨t1, htt⟩ : ∃ t1, addrN x.c B (p + k) = t1 := ⟨_, rfl⟩
      rw [htt] at hw1 ht1
      have Hw := Lib.hid hw1
      have Ht1 := Lib.hid htt
      have ht1I : (t1 : Int) < ws.length := by omega
      have cS := kS.cell
      have lS := kS.lt
      clear hw1 htt hC2 hwl
      go_wp2_with (first | (go_at_call 62; refine (go_nat _ _ cW cF ⟨S.sh, ws, S.fs⟩ L x B p k t0 t1 _ _ (hO.rd) hC.out Hx.out HB.out (by omega) rfl Ht.out Ht1.out).mono ?_; rintro e w1 ⟨rfl, hE1⟩; have kS1 := kS.ext hE1; have cS1 := kS1.cell; have lS1 := kS1.lt; have hO1 := hO.ext hE1; obtain ⟨bW, oW, he, z0⟩ := wd_at hO1.rd.W Hw.out; simp only [Option.some.injEq, Addr.mk.injEq, and_true] at he; obtain ⟨rfl, rfl⟩ := he; simp only [Nat.zero_add] at z0; have fW := (own_cells hO1.W).2; have lW := cell_lt z0))
      go_roundw
      case rel =>
        have hC3 := HC2.out
        rw [Ht1.out] at hC3
        exact ⟨k + 1, ws.set t1 0, by omega, by omega, by go_num, by simpa using Hwl.out, hC3, hO1.word t1 0, But.setCell (hB0.trans (hE1.but _)) (by simp) _, by rw [← Hwl.out]; exact kS1.far hg1 _⟩
      case measure => simp [intOf]; omega
    · have d1 : decide ((k : Int) ≤ (r : Int) + d) = false := by (first | omega | (simp; done) | (simp; omega))
      clear hwl
      go_wp2
      go_ret
      exact ⟨ws, rfl, Hwl.out, hC.out, hO, hB0⟩
def RetInit (w : World) (S : Sp) (L : List Ch) (r : Ending) (w' : World) : Prop :=
  ∃ (gW cW gF cF : Nat) (ws : List Int), r = .returned (.tuple #[.agg #[.int .i64 S.sh, .slice (some ⟨gW, 0, none⟩) ws.length cW, .slice (some ⟨gF, 0, none⟩) S.fs.length cF], .int .i64 0]) ∧ ws.length = S.ws.length ∧ Chs ⟨S.sh, ws, S.fs⟩ L ∧ SOw w' w.heap.size ⟨S.sh, ws, S.fs⟩ gW cW gF cF ∧ Ext w w'
theorem fin_init {Q : Ending → World → Prop} {a : Act} {W : World} {g1 : Nat} {u0 u1 u2 t9 : Value} (hd : a.defers = []) (h6 : a.tmps[8]?.getD undef = .pointer (some ⟨g1, 0, none⟩)) (h9 : a.tmps[9]?.getD undef = t9)
    (k1 : Blk W g1 35 #[u0, u1, u2]) (hQ : Q (.returned (.tuple #[.agg #[u0, u1, u2], t9])) W) :
    bodyPost Try.prog Try.f37 Q Exit.ret a W := by
  have c1 := k1.cell
  exact bodyPost_ret (v := .tuple #[.agg #[u0, u1, u2], t9]) (by simp [results, Try.results37, go_sem, h6, h9, c1]) hd hQ
set_option maxRecDepth 100000 in
set_option maxHeartbeats 4000000 in
theorem init_any (A Bf : Option Addr) (a b : Nat) (S : Sp) (L : List Ch) (x : Ch) (B p r d : Nat) (w : World) (h : SRd w S A Bf) (hS : Chs S L) (hx : x ∈ L) (hB : 2 ^ S.sh = B) (hp : p + (r + d) < x.c.length * B) (hr : r ≤ 15) (hd : d ≤ 32) :
    Calls Try.prog 37 #[spV S A a Bf b, .int .i64 (addrN x.c B p : Nat), .int .i64 r, .int .i64 d] w (RetInit w S L) := by
  have hb1 := (pow_bd hS.sh).1
  have hb2 := (pow_bd hS.sh).2
  rw [hB] at hb1 hb2
  obtain ⟨hn1, hn2⟩ := hS.n2
  have hwl := hS.wl
  rw [hB] at hwl
  have hfB : S.fs.length * B ≤ 64 * 256 := Nat.mul_le_mul (by omega) hb2
  have hfB1 : 2 * 8 ≤ S.fs.length * B := Nat.mul_le_mul (by omega) hb1
  have hw1 : 0 < S.ws.length := by omega
  have hw2 : S.ws.length ≤ 100000 := by omega
  have HS := Lib.hid hS
  have Hx := Lib.hid hx
  have HB := Lib.hid hB
  clear hwl hS hx hB
  unfold spV
  go_enter Try.func37, Try.ntmps37
  go_upto_region 1 with fail
  have kS : Blk ((w.alloc (.cells #[.int .i64 S.sh, .slice A S.ws.length a, .slice Bf S.fs.length b] 35)).alloc (.cells #[.int .i64 0, .slice none 0 0, .slice none 0 0] 35)) w.heap.size 35 #[.int .i64 S.sh, .slice A S.ws.length a, .slice Bf S.fs.length b] := Blk.alloc (Blk.new rfl) _
  have kR : Blk ((w.alloc (.cells #[.int .i64 S.sh, .slice A S.ws.length a, .slice Bf S.fs.length b] 35)).alloc (.cells #[.int .i64 0, .slice none 0 0, .slice none 0 0] 35)) (w.heap.size + 1) 35 #[.int .i64 0, .slice none 0 0, .slice none 0 0] := Blk.new (by simp)
  have hE0 : Ext w ((w.alloc (.cells #[.int .i64 S.sh, .slice A S.ws.length a, .slice Bf S.fs.length b] 35)).alloc (.cells #[.int .i64 0, .slice none 0 0, .slice none 0 0] 35)) := by (repeat (first | (with_reducible exact Ext.refl _) | assumption | (with_reducible refine Ext.alloc ?_ _) | (with_reducible refine Ext.drew ?_) | (with_reducible refine Ext.drewL ?_) | refine Ext.trans ?_ (by assumption)))
  generalize (w.alloc (.cells #[.int .i64 S.sh, .slice A S.ws.length a, .slice Bf S.fs.length b] 35)).alloc (.cells #[.int .i64 0, .slice none 0 0, .slice none 0 0] 35) = W at kS kR hE0 ⊢
  obtain ⟨b0, hb0⟩ : ∃ b0, w.heap.size = b0 := ⟨_, rfl⟩
  rw [hb0] at kS kR ⊢
  have hb0a : w.heap.size ≤ b0 := by omega
  have Hb0 := Lib.hid hb0
  clear hb0
  have cS := kS.cell
  have lS := kS.lt
  go_upto_region 4 with (first | (go_at_call 45; refine (valid_any A Bf a b S L _ (h.ext hE0) HS.out).mono ?_; rintro e w1 ⟨rfl, hE1⟩; have kS1 := kS.ext hE1; have kR1 := kR.ext hE1; have cS1 := kS1.cell; have lS1 := kS1.lt) | (go_at_call 43; refine (copy_any A Bf a b S _ (h.ext (hE0.trans hE1)) hw1 hw2 (by omega) (by omega)).mono ?_; rintro e w1 ⟨gW, cW, gF, cF, rfl, hO, hE2⟩))
  have hE3 := (hE0.trans hE1).trans hE2
  have hO5 := (hO.ext (Ext.alloc (Ext.refl _) (.cells #[.int .i64 S.sh, .slice (some ⟨gW, 0, none⟩) S.ws.length cW, .slice (some ⟨gF, 0, none⟩) S.fs.length cF] 35))).base_ (hE0.trans hE1).size_le
  have hE5 := hE3.trans (Ext.alloc (Ext.refl _) (.cells #[.int .i64 S.sh, .slice (some ⟨gW, 0, none⟩) S.ws.length cW, .slice (some ⟨gF, 0, none⟩) S.fs.length cF] 35))
  have kR5 := (kR1.ext hE2).alloc (.cells #[.int .i64 S.sh, .slice (some ⟨gW, 0, none⟩) S.ws.length cW, .slice (some ⟨gF, 0, none⟩) S.fs.length cF] 35)
  have kN := (Blk.new rfl : Blk (w1.alloc (.cells #[.int .i64 S.sh, .slice (some ⟨gW, 0, none⟩) S.ws.length cW, .slice (some ⟨gF, 0, none⟩) S.fs.length cF] 35)) w1.heap.size 35 #[.int .i64 S.sh, .slice (some ⟨gW, 0, none⟩) S.ws.length cW, .slice (some ⟨gF, 0, none⟩) S.fs.length cF])
  have hgl := hO.lt
  have lR1 := kR1.lt
  clear cS lS cS1 lS1 kS kS1 kR kR1 hO hE0 hE1 hE2 hE3
  generalize w1.alloc (.cells #[.int .i64 S.sh, .slice (some ⟨gW, 0, none⟩) S.ws.length cW, .slice (some ⟨gF, 0, none⟩) S.fs.length cF] 35) = W5 at *
  generalize w1.heap.size = bN at *
  have n1 : b0 + 1 ∉ [gW] := by simp; omega
  have n2 : bN ∉ [gW] := by simp; omega
  have g1 : b0 + 1 < gF := by omega
  have g2 : b0 + 1 < gW := by omega
  have cN := kN.cell
  have lN := kN.lt
  go_wp2_with fail
  go_at_call 46
  refine (make_any gW cW gF cF w.heap.size S L x B p r d _ hO5 HS.out Hx.out HB.out hp hr hd).mono ?_
  rintro e w6 ⟨ws, rfl, hwl, hC, hO6, hB6⟩
  have kR6 := kR5.but hB6 n1
  have kN6 := kN.but hB6 n2
  have cN6 := kN6.cell
  have lN6 := kN6.lt
  have cR6 := kR6.cell
  have fR6 := kR6.froz
  have lR6 := kR6.lt
  have Hwl := Lib.hid hwl
  clear cN lN hwl
  go_wp2
  have p1 := ((kR6.set_ 0 (.int .i64 S.sh)).set_ 1 (.slice (some ⟨gW, 0, none⟩) S.ws.length cW)).set_ 2 (.slice (some ⟨gF, 0, none⟩) S.fs.length cF)
  simp only [List.setIfInBounds_toArray, List.set_cons_zero, List.set_cons_succ] at p1
  refine fin_init (t9 := .int .i64 0) rfl rfl rfl p1 ⟨gW, cW, gF, cF, ws, by rw [Hwl.out], Hwl.out, hC, ?_, ?_⟩
  · repeat (refine SOw.far ?_ (by simp; omega) (by simp; omega) _)
    exact hO6
  · have hb0 := Hb0.out
    repeat (refine Ext.setCell ?_ (by simp; omega) _)
    exact But.ext hE5 hB6 (fun y hy => by have := List.mem_singleton.1 hy; omega)
end Go.Proofs.Ytljkadpconghnaa
