/- The walk of the reference's Do. Conditions: the ranges that each theorem states. -/
import Derived.Test.YtamghjilcfeheaaH
namespace Go.Proofs.Ytamghjilcfeheaa
open Go.RowKit Go.Draw

/-- a slice that lies outside the blocks of S -/
def Off (S : List Nat) (A : Option Addr) (n : Nat) : Prop := 0 < n → ∀ ad, A = some ad → ad.block ∉ S
theorem Off.cons {S : List Nat} {A : Option Addr} {n size o : Nat} {w : World} {xs : List Value} (h : Off S A n) (hr : Rd w A n size xs) (hs : 0 < size) (ho : w.heap.size ≤ o) : Off (o :: S) A n := fun hn ad hA hm => by
  rcases List.mem_cons.1 hm with h1 | h1
  · obtain ⟨b, f, hb, hl⟩ := hr.lt hs hn
    rw [hA] at hb
    injection hb with hb
    subst hb
    simp only at h1
    omega
  · exact h hn ad hA h1
theorem Off.own {S : List Nat} {w : World} {base : Nat} {e : TypeId} {A : Option Addr} {n c size : Nat} {xs : List Value} (h : w.ownsRow base e size (.slice A n c) n xs) (hS : ∀ x ∈ S, x < base) : Off S A n := fun hn ad hA hm => by
  obtain ⟨g, hg, hb, _⟩ := own_form h hn
  rw [hA] at hg
  injection hg with hg
  subst hg
  have := hS _ hm
  simp only at this
  omega
def NdRx (S : List Nat) (w : World) (p : Value × Value) (x : List Int × List Int) : Prop := ∃ A c B d, p = (.slice A x.1.length c, .slice B x.2.length d) ∧ Rd w A x.1.length 1 (ints x.1) ∧ Rd w B x.2.length 1 (words x.2) ∧ Off S A x.1.length ∧ Off S B x.2.length
/-- a graph that reads, outside the blocks of S -/
def GRx (S : List Nat) (w : World) (v : Value) (g : Gr) : Prop := ∃ A a B b C c ps, v = .agg #[.slice A g.ns.length a, .slice B g.us.length b, .slice C g.rs.length c] ∧
  Rd w A g.ns.length 2 (vals ps) ∧ Rd w B g.us.length 1 (vb g.us) ∧ Rd w C g.rs.length 1 (ints g.rs) ∧ (∀ (i : Nat) (p : Value × Value) (x : List Int × List Int), ps[i]? = some p → g.ns[i]? = some x → NdRx S w p x) ∧
  Off S A g.ns.length ∧ Off S B g.us.length ∧ Off S C g.rs.length
theorem GRx.rd {S : List Nat} {w : World} {v : Value} {g : Gr} (h : GRx S w v g) : GRd w v g := by
  obtain ⟨A, a, B, b, C, c, ps, hv, h1, h2, h3, h4, _⟩ := h
  exact ⟨A, a, B, b, C, c, ps, hv, h1, h2, h3, fun i p x hp hx => by obtain ⟨A', c', B', d', k1, k2, k3, _⟩ := h4 i p x hp hx; exact ⟨A', c', B', d', k1, k2, k3⟩⟩
theorem GRx.but {S : List Nat} {w w' : World} {v : Value} {g : Gr} (h : GRx S w v g) (he : But S w w') : GRx S w' v g := by
  obtain ⟨A, a, B, b, C, c, ps, hv, h1, h2, h3, h4, h5, h6, h7⟩ := h
  exact ⟨A, a, B, b, C, c, ps, hv, rd_but h1 he h5, rd_but h2 he h6, rd_but h3 he h7, fun i p x hp hx => by
    obtain ⟨A', c', B', d', k1, k2, k3, k4, k5⟩ := h4 i p x hp hx
    exact ⟨A', c', B', d', k1, rd_but k2 he k4, rd_but k3 he k5, k4, k5⟩, h5, h6, h7⟩
theorem GRx.ext {S : List Nat} {w w' : World} {v : Value} {g : Gr} (h : GRx S w v g) (he : Ext w w') : GRx S w' v g := h.but (he.but S)
theorem GRx.less {S S' : List Nat} {w : World} {v : Value} {g : Gr} (h : GRx S w v g) (hs : ∀ x ∈ S', x ∈ S) : GRx S' w v g := by
  have off : ∀ {A : Option Addr} {n : Nat}, Off S A n → Off S' A n := fun h hn ad hA hm => h hn ad hA (hs _ hm)
  obtain ⟨A, a, B, b, C, c, ps, hv, h1, h2, h3, h4, h5, h6, h7⟩ := h
  exact ⟨A, a, B, b, C, c, ps, hv, h1, h2, h3, fun i p x hp hx => by
    obtain ⟨A', c', B', d', k1, k2, k3, k4, k5⟩ := h4 i p x hp hx
    exact ⟨A', c', B', d', k1, k2, k3, off k4, off k5⟩, off h5, off h6, off h7⟩
/-- a block that is no block yet -/
theorem GRx.cons {S : List Nat} {w : World} {v : Value} {g : Gr} {o : Nat} (h : GRx S w v g) (ho : w.heap.size ≤ o) : GRx (o :: S) w v g := by
  obtain ⟨A, a, B, b, C, c, ps, hv, h1, h2, h3, h4, h5, h6, h7⟩ := h
  exact ⟨A, a, B, b, C, c, ps, hv, h1, h2, h3, fun i p x hp hx => by
    obtain ⟨A', c', B', d', k1, k2, k3, k4, k5⟩ := h4 i p x hp hx
    exact ⟨A', c', B', d', k1, k2, k3, k4.cons k2 (by omega) ho, k5.cons k3 (by omega) ho⟩, h5.cons h1 (by omega) ho, h6.cons h2 (by omega) ho, h7.cons h3 (by omega) ho⟩
theorem GRd.rx {w : World} {v : Value} {g : Gr} (h : GRd w v g) : GRx [] w v g := by
  have off : ∀ {A : Option Addr} {n : Nat}, Off [] A n := fun _ _ _ hm => by simp at hm
  obtain ⟨A, a, B, b, C, c, ps, hv, h1, h2, h3, h4⟩ := h
  exact ⟨A, a, B, b, C, c, ps, hv, h1, h2, h3, fun i p x hp hx => by
    obtain ⟨A', c', B', d', k1, k2, k3⟩ := h4 i p x hp hx
    exact ⟨A', c', B', d', k1, k2, k3, off, off⟩, off, off, off⟩
theorem GOwn.rdx {S : List Nat} {w : World} {base o : Nat} {vA vB vC : Value} {ps : List (Value × Value)} {g : Gr} (h : GOwn w base o vA vB vC ps g) (hS : ∀ x ∈ S, x < base) : GRx S w (.agg #[vA, vB, vC]) g := by
  obtain ⟨A, a, rfl⟩ := own_slice h.nodes
  obtain ⟨B, b, rfl⟩ := own_slice h.used
  obtain ⟨C, c, rfl⟩ := own_slice h.roots
  refine ⟨A, a, B, b, C, c, ps, rfl, Rd.of_own h.nodes, Rd.of_own h.used, Rd.of_own h.roots, fun i p x hp hx => ?_, Off.own h.nodes hS, Off.own h.used hS, Off.own h.roots hS⟩
  obtain ⟨h1, h2⟩ := h.each i p x hp hx
  obtain ⟨p1, p2⟩ := p
  obtain ⟨A', a', rfl⟩ := own_slice h1
  obtain ⟨B', b', rfl⟩ := own_slice h2
  exact ⟨A', a', B', b', rfl, Rd.of_own h1, Rd.of_own h2, Off.own h1 hS, Off.own h2 hS⟩
/-- what Do returns -/
def RetDo (S : List Nat) (w : World) (x : Gr × Int × Int) (r : Ending) (w' : World) : Prop := ∃ v', r = .returned (.tuple #[v', .agg #[.int .i64 x.2.1, .int .u64 x.2.2]]) ∧ GRx S w' v' x.1 ∧ Ext w w'
/-- small, as Copy wants it -/
theorem Vld.bd {g : Gr} (h : Vld g) (hn : g.ns.length ≤ 1000) : Bd g := by
  have hlu := h.lu
  have hlr := h.lr
  exact ⟨hn, by omega, by omega, fun i x hx => by have := h.nd i x hx; omega⟩

theorem GRd.sl {w : World} {v : Value} {g : Gr} (h : GRd w v g) : ∃ A a B b C c, v = .agg #[.slice A g.ns.length a, .slice B g.us.length b, .slice C g.rs.length c] := by
  obtain ⟨A, a, B, b, C, c, ps, hv, _⟩ := h
  exact ⟨_, _, _, _, _, _, hv⟩
/-- where the reference's Do stands behind its copy -/
structure DoSt (w W : World) (vA0 vB0 vC0 : Value) (op : Array Value) (o : Nat) (vA vB vC : Value) (qs : List (Value × Value)) (g : Gr) : Prop where
  k2 : Blk W w.heap.size 26 #[vA0, vB0, vC0]
  k3 : Blk W (w.heap.size + 1) 37 op
  k4 : Blk W (w.heap.size + 1 + 1) 26 #[.slice none 0 0, .slice none 0 0, .slice none 0 0]
  k5 : Blk W (w.heap.size + 1 + 1 + 1) 33 #[.int .i64 0, .int .u64 0]
  kO : Blk W o 26 #[vA, vB, vC]
  own : GOwn W (w.heap.size + 4) o vA vB vC qs g
  rd : GRd W (.agg #[vA0, vB0, vC0]) g
  ext : Ext w W
  lo : w.heap.size + 4 ≤ o
  hi : o < W.heap.size
theorem do_start {w w1 : World} {vA0 vB0 vC0 vA vB vC : Value} {op : Array Value} {qs : List (Value × Value)} {g : Gr} (hg : GRd w (.agg #[vA0, vB0, vC0]) g)
    (hE : Ext ((((w.alloc (.cells #[vA0, vB0, vC0] 26)).alloc (.cells op 37)).alloc (.cells #[.slice none 0 0, .slice none 0 0, .slice none 0 0] 26)).alloc (.cells #[.int .i64 0, .int .u64 0] 33)) w1)
    (hG : GOwn w1 ((((w.alloc (.cells #[vA0, vB0, vC0] 26)).alloc (.cells op 37)).alloc (.cells #[.slice none 0 0, .slice none 0 0, .slice none 0 0] 26)).alloc (.cells #[.int .i64 0, .int .u64 0] 33)).heap.size
      ((((w.alloc (.cells #[vA0, vB0, vC0] 26)).alloc (.cells op 37)).alloc (.cells #[.slice none 0 0, .slice none 0 0, .slice none 0 0] 26)).alloc (.cells #[.int .i64 0, .int .u64 0] 33)).heap.size vA vB vC qs g) :
    DoSt w (w1.alloc (.cells #[vA, vB, vC] 26)) vA0 vB0 vC0 op w1.heap.size vA vB vC qs g := by
  have e0 : Ext w ((((w.alloc (.cells #[vA0, vB0, vC0] 26)).alloc (.cells op 37)).alloc (.cells #[.slice none 0 0, .slice none 0 0, .slice none 0 0] 26)).alloc (.cells #[.int .i64 0, .int .u64 0] 33)) := by (repeat (first | (with_reducible exact Ext.refl _) | assumption | (with_reducible refine Ext.alloc ?_ _) | (with_reducible refine Ext.drew ?_) | (with_reducible refine Ext.drewL ?_) | refine Ext.trans ?_ (by assumption)))
  have hs := hE.size_le
  simp at hs hG
  refine ⟨Blk.alloc (Blk.ext ?_ hE) _, Blk.alloc (Blk.ext ?_ hE) _, Blk.alloc (Blk.ext ?_ hE) _, Blk.alloc (Blk.ext ?_ hE) _, Blk.new rfl, ?_, hg.ext (Ext.alloc (e0.trans hE) _), Ext.alloc (e0.trans hE) _, by omega, by simp⟩
  · exact Blk.alloc (Blk.alloc (Blk.alloc (Blk.new rfl) _) _) _
  · exact Blk.alloc (Blk.alloc (Blk.new (by simp)) _) _
  · exact Blk.alloc (Blk.new (by simp)) _
  · exact Blk.new (by simp)
  · exact ((hG.off_ (Nat.le_refl _)).ext (Ext.alloc (Ext.refl _) _)).base_ (by omega)


/-- the five stores at the end -/
abbrev st5 (n : Nat) (W : World) (x y z e v : Value) : World :=
  ((((W.setCell ⟨n + 1 + 1, 0, none⟩ x).setCell ⟨n + 1 + 1, 1, none⟩ y).setCell ⟨n + 1 + 1, 2, none⟩ z).setCell ⟨n + 1 + 1 + 1, 0, none⟩ e).setCell ⟨n + 1 + 1 + 1, 1, none⟩ v
theorem fin5 {n : Nat} {W : World} (x y z e v : Value) (k4 : Blk W (n + 1 + 1) 26 #[.slice none 0 0, .slice none 0 0, .slice none 0 0]) (k5 : Blk W (n + 1 + 1 + 1) 33 #[.int .i64 0, .int .u64 0]) :
    (∀ i, (st5 n W x y z e v).cell? ⟨n + 1 + 1, i, none⟩ = #[x, y, z][i]?) ∧ ∀ i, (st5 n W x y z e v).cell? ⟨n + 1 + 1 + 1, i, none⟩ = #[e, v][i]? := by
  have h4 := ((((k4.set_ 0 x).set_ 1 y).set_ 2 z).far (p := ⟨n + 1 + 1 + 1, 0, none⟩) (by simp) e).far (p := ⟨n + 1 + 1 + 1, 1, none⟩) (by simp) v
  have h5 := ((((k5.far (p := ⟨n + 1 + 1, 0, none⟩) (by simp) x).far (p := ⟨n + 1 + 1, 1, none⟩) (by simp) y).far (p := ⟨n + 1 + 1, 2, none⟩) (by simp) z).set_ 0 e).set_ 1 v
  exact ⟨fun i => by rw [h4.cell]; rfl, fun i => by rw [h5.cell]; rfl⟩
theorem ext5 {w W : World} {x y z e v : Value} (h : Ext w W) : Ext w (st5 w.heap.size W x y z e v) :=
  Ext.setCell (Ext.setCell (Ext.setCell (Ext.setCell (Ext.setCell h (by show _ ≤ w.heap.size + 1 + 1; omega) _) (by show _ ≤ w.heap.size + 1 + 1; omega) _) (by show _ ≤ w.heap.size + 1 + 1; omega) _) (by show _ ≤ w.heap.size + 1 + 1 + 1; omega) _) (by show _ ≤ w.heap.size + 1 + 1 + 1; omega) _
theorem own5 {S : List Nat} {n o : Nat} {W : World} {x y z e v vA vB vC : Value} {qs : List (Value × Value)} {g : Gr} (hSb : ∀ x ∈ S, x < n) (h : GOwn W (n + 4) o vA vB vC qs g) : GRx S (st5 n W x y z e v) (.agg #[vA, vB, vC]) g := by
  have f4 : ∀ q, kv vA vB vC qs q ≠ some (n + 1 + 1) := fun q hq => by have := (h.lt q _ hq).1; omega
  have f5 : ∀ q, kv vA vB vC qs q ≠ some (n + 1 + 1 + 1) := fun q hq => by have := (h.lt q _ hq).1; omega
  exact ((((h.far (a := ⟨n + 1 + 1, 0, none⟩) f4 x).far (a := ⟨n + 1 + 1, 1, none⟩) f4 y).far (a := ⟨n + 1 + 1, 2, none⟩) f4 z).far (a := ⟨n + 1 + 1 + 1, 0, none⟩) f5 e).far (a := ⟨n + 1 + 1 + 1, 1, none⟩) f5 v |>.rdx (fun x hx => by have := hSb x hx; omega)

theorem GOwn.tabs {W : World} {base o b1 c1 : Nat} {vA : Value} {B1 C1 : Option Addr} {qs : List (Value × Value)} {g : Gr} (h : GOwn W base o vA (.slice B1 g.us.length b1) (.slice C1 g.rs.length c1) qs g) (hu : 0 < g.us.length) (hr : 0 < g.rs.length) :
    ∃ bB bC, B1 = some ⟨bB, 0, none⟩ ∧ C1 = some ⟨bC, 0, none⟩ ∧ bB ≠ bC ∧ bB ≠ o ∧ bC ≠ o ∧ (base ≤ bB ∧ bB < W.heap.size) ∧ (base ≤ bC ∧ bC < W.heap.size) := by
  obtain ⟨bB, cB, hB⟩ := own_at h.used hu
  obtain ⟨bC, cC, hC⟩ := own_at h.roots hr
  injection hB with hB _ _
  injection hC with hC _ _
  subst hB
  subst hC
  refine ⟨bB, bC, rfl, rfl, fun e => ?_, fun e => h.off .B (by rw [← e]; rfl), fun e => h.off .C (by rw [← e]; rfl), h.lt .B bB rfl, h.lt .C bC rfl⟩
  have := h.apart .B .C bB rfl (by rw [e]; rfl)
  cases this

set_option maxRecDepth 100000 in
set_option maxHeartbeats 1000000 in
theorem do27_8 (v : Value) (g : Gr) (a b d : Int) (w : World) {S : List Nat} (hSb : ∀ x ∈ S, x < w.heap.size) (hg0 : GRx S w v g) (hb : Bd g) :
    Calls Try.prog 27 #[v, .agg #[.int .i64 8, .int .i64 a, .int .i64 b, .int .i64 d]] w (RetDo S w (g, 0, 0)) := by
  have hg := hg0.rd
  obtain ⟨A0, a0, B0, b0, C0, c0, rfl⟩ := hg.sl
  go_enter Try.func27, Try.ntmps27
  go_upto_region 2 with (go_at_call 32; refine (copy_any _ g _ (hg.ext (by (repeat (first | (with_reducible exact Ext.refl _) | assumption | (with_reducible refine Ext.alloc ?_ _) | (with_reducible refine Ext.drew ?_) | (with_reducible refine Ext.drewL ?_) | refine Ext.trans ?_ (by assumption))))) hb).mono ?_; rintro e w1 ⟨vA, vB, vC, qs, rfl, hG, hE1⟩; obtain ⟨A1, a1, rfl⟩ := own_slice hG.nodes; obtain ⟨B1, b1, rfl⟩ := own_slice hG.used; obtain ⟨C1, c1, rfl⟩ := own_slice hG.roots; have kO : Blk (w1.alloc (.cells #[.slice none 0 0, .slice none 0 0, .slice none 0 0] 26)) w1.heap.size 26 #[.slice none 0 0, .slice none 0 0, .slice none 0 0] := Blk.new rfl; have cO := kO.cell; have fO := kO.froz)
  clear kO cO fO
  have hS := do_start hg hE1 hG
  clear hE1 hG hg
  obtain ⟨k2, k3, k4, k5, kO, hG, hg, hE, hlo, hhi⟩ := hS
  generalize hW : w1.alloc (.cells #[.slice A1 g.ns.length a1, .slice B1 g.us.length b1, .slice C1 g.rs.length c1] 26) = W at *
  clear hW
  generalize w1.heap.size = o at *
  clear w1
  have m2 := k2.cell
  have m3 := k3.cell
  have mO := kO.cell
  have f4 := k4.froz
  have f5 := k5.froz
  have n4 : w.heap.size + 1 + 1 ≠ o := by omega
  have n5 : w.heap.size + 1 + 1 + 1 ≠ o := by omega
  have m4 := k4.cell
  have m5 := k5.cell
  go_wp2
  obtain ⟨cF4, cF5⟩ := fin5 (n := w.heap.size) (.slice A1 g.ns.length a1) (.slice B1 g.us.length b1) (.slice C1 g.rs.length c1) (.int .i64 0) (.int .u64 (0)) (k4) (k5)
  exact bodyPost_ret (v := .tuple #[.agg #[.slice A1 g.ns.length a1, .slice B1 g.us.length b1, .slice C1 g.rs.length c1], .agg #[.int .i64 0, .int .u64 (0)]]) (by simp [results, Try.results27, go_sem, cF4, cF5]) rfl ⟨_, rfl, own5 hSb (hG), ext5 (hE)⟩

set_option maxRecDepth 100000 in
set_option maxHeartbeats 1000000 in
theorem do27_bad (v : Value) (g : Gr) (c a b d : Int) (w : World) {S : List Nat} (hSb : ∀ x ∈ S, x < w.heap.size) (hg0 : GRx S w v g) (hb : Bd g) (hc : ¬ (1 ≤ c ∧ c ≤ 10)) :
    Calls Try.prog 27 #[v, .agg #[.int .i64 c, .int .i64 a, .int .i64 b, .int .i64 d]] w (RetDo S w (g, 20, 0)) := by
  have hg := hg0.rd
  have n1 : (c == 1) = false := by simp; omega
  have n2 : (c == 2) = false := by simp; omega
  have n3 : (c == 3) = false := by simp; omega
  have n4 : (c == 4) = false := by simp; omega
  have n5 : (c == 5) = false := by simp; omega
  have n6 : (c == 6) = false := by simp; omega
  have n7 : (c == 7) = false := by simp; omega
  have n8 : (c == 8) = false := by simp; omega
  have n9 : (c == 9) = false := by simp; omega
  have n10 : (c == 10) = false := by simp; omega
  obtain ⟨A0, a0, B0, b0, C0, c0, rfl⟩ := hg.sl
  go_enter Try.func27, Try.ntmps27
  go_upto_region 2 with (go_at_call 32; refine (copy_any _ g _ (hg.ext (by (repeat (first | (with_reducible exact Ext.refl _) | assumption | (with_reducible refine Ext.alloc ?_ _) | (with_reducible refine Ext.drew ?_) | (with_reducible refine Ext.drewL ?_) | refine Ext.trans ?_ (by assumption))))) hb).mono ?_; rintro e w1 ⟨vA, vB, vC, qs, rfl, hG, hE1⟩; obtain ⟨A1, a1, rfl⟩ := own_slice hG.nodes; obtain ⟨B1, b1, rfl⟩ := own_slice hG.used; obtain ⟨C1, c1, rfl⟩ := own_slice hG.roots; have kO : Blk (w1.alloc (.cells #[.slice none 0 0, .slice none 0 0, .slice none 0 0] 26)) w1.heap.size 26 #[.slice none 0 0, .slice none 0 0, .slice none 0 0] := Blk.new rfl; have cO := kO.cell; have fO := kO.froz)
  clear kO cO fO
  have hS := do_start hg hE1 hG
  clear hE1 hG hg
  obtain ⟨k2, k3, k4, k5, kO, hG, hg, hE, hlo, hhi⟩ := hS
  generalize hW : w1.alloc (.cells #[.slice A1 g.ns.length a1, .slice B1 g.us.length b1, .slice C1 g.rs.length c1] 26) = W at *
  clear hW
  generalize w1.heap.size = o at *
  clear w1
  have m2 := k2.cell
  have m3 := k3.cell
  have mO := kO.cell
  have f4 := k4.froz
  have f5 := k5.froz
  have n4 : w.heap.size + 1 + 1 ≠ o := by omega
  have n5 : w.heap.size + 1 + 1 + 1 ≠ o := by omega
  have m4 := k4.cell
  have m5 := k5.cell
  go_wp2_with (first | (go_at_call 33; refine (fail_any _ g _ _ (hg.ext (by (repeat (first | (with_reducible exact Ext.refl _) | assumption | (with_reducible refine Ext.alloc ?_ _) | (with_reducible refine Ext.drew ?_) | (with_reducible refine Ext.drewL ?_) | refine Ext.trans ?_ (by assumption)))))).mono ?_; rintro e w1 ⟨rfl, hEf⟩; have hE2 : Ext W w1 := (by (repeat (first | (with_reducible exact Ext.refl _) | assumption | (with_reducible refine Ext.alloc ?_ _) | (with_reducible refine Ext.drew ?_) | (with_reducible refine Ext.drewL ?_) | refine Ext.trans ?_ (by assumption)))); have m4' := (k4.ext hE2).cell; have m5' := (k5.ext hE2).cell; have f4' := (k4.ext hE2).froz; have f5' := (k5.ext hE2).froz))
  obtain ⟨cF4, cF5⟩ := fin5 (n := w.heap.size) (.slice A0 g.ns.length a0) (.slice B0 g.us.length b0) (.slice C0 g.rs.length c0) (.int .i64 (20)) (.int .u64 0) (k4.ext hE2) (k5.ext hE2)
  exact bodyPost_ret (v := .tuple #[.agg #[.slice A0 g.ns.length a0, .slice B0 g.us.length b0, .slice C0 g.rs.length c0], .agg #[.int .i64 (20), .int .u64 0]]) (by simp [results, Try.results27, go_sem, cF4, cF5]) rfl ⟨_, rfl, hg0.ext (ext5 (hE.trans hE2)), ext5 (hE.trans hE2)⟩

set_option maxRecDepth 100000 in
set_option maxHeartbeats 1000000 in
theorem do27_size (v : Value) (g : Gr) (a b d : Int) (w : World) {S : List Nat} (hSb : ∀ x ∈ S, x < w.heap.size) (hg0 : GRx S w v g) (hb : Bd g) (hc : a < 0 ∨ 15 < a ∨ b < 0 ∨ 32 < b) :
    Calls Try.prog 27 #[v, .agg #[.int .i64 1, .int .i64 a, .int .i64 b, .int .i64 d]] w (RetDo S w (g, 13, 0)) := by
  have hg := hg0.rd
  have H : ∃ x1 x2 x3 x4 : Bool, decide (a < 0) = x1 ∧ decide (15 < a) = x2 ∧ decide (b < 0) = x3 ∧ decide (32 < b) = x4 ∧ (x1 || x2 || x3 || x4) = true := ⟨_, _, _, _, rfl, rfl, rfl, rfl, by simp; omega⟩
  clear hc
  obtain ⟨x1, x2, x3, x4, q1, q2, q3, q4, hq⟩ := H
  obtain ⟨A0, a0, B0, b0, C0, c0, rfl⟩ := hg.sl
  go_enter Try.func27, Try.ntmps27
  go_upto_region 2 with (go_at_call 32; refine (copy_any _ g _ (hg.ext (by (repeat (first | (with_reducible exact Ext.refl _) | assumption | (with_reducible refine Ext.alloc ?_ _) | (with_reducible refine Ext.drew ?_) | (with_reducible refine Ext.drewL ?_) | refine Ext.trans ?_ (by assumption))))) hb).mono ?_; rintro e w1 ⟨vA, vB, vC, qs, rfl, hG, hE1⟩; obtain ⟨A1, a1, rfl⟩ := own_slice hG.nodes; obtain ⟨B1, b1, rfl⟩ := own_slice hG.used; obtain ⟨C1, c1, rfl⟩ := own_slice hG.roots; have kO : Blk (w1.alloc (.cells #[.slice none 0 0, .slice none 0 0, .slice none 0 0] 26)) w1.heap.size 26 #[.slice none 0 0, .slice none 0 0, .slice none 0 0] := Blk.new rfl; have cO := kO.cell; have fO := kO.froz)
  clear kO cO fO
  have hS := do_start hg hE1 hG
  clear hE1 hG hg
  obtain ⟨k2, k3, k4, k5, kO, hG, hg, hE, hlo, hhi⟩ := hS
  generalize hW : w1.alloc (.cells #[.slice A1 g.ns.length a1, .slice B1 g.us.length b1, .slice C1 g.rs.length c1] 26) = W at *
  clear hW
  generalize w1.heap.size = o at *
  clear w1
  have m2 := k2.cell
  have m3 := k3.cell
  have mO := kO.cell
  have f4 := k4.froz
  have f5 := k5.froz
  have n4 : w.heap.size + 1 + 1 ≠ o := by omega
  have n5 : w.heap.size + 1 + 1 + 1 ≠ o := by omega
  have m4 := k4.cell
  have m5 := k5.cell
  cases x1 <;> cases x2 <;> cases x3 <;> cases x4 <;> simp only [Bool.or_true, Bool.or_false, Bool.true_or, Bool.false_or, Bool.false_eq_true] at hq
  all_goals
    go_wp2_with (first | (go_at_call 33; refine (fail_any _ g _ _ (hg.ext (by (repeat (first | (with_reducible exact Ext.refl _) | assumption | (with_reducible refine Ext.alloc ?_ _) | (with_reducible refine Ext.drew ?_) | (with_reducible refine Ext.drewL ?_) | refine Ext.trans ?_ (by assumption)))))).mono ?_; rintro e w1 ⟨rfl, hEf⟩; have hE2 : Ext W w1 := (by (repeat (first | (with_reducible exact Ext.refl _) | assumption | (with_reducible refine Ext.alloc ?_ _) | (with_reducible refine Ext.drew ?_) | (with_reducible refine Ext.drewL ?_) | refine Ext.trans ?_ (by assumption)))); have m4' := (k4.ext hE2).cell; have m5' := (k5.ext hE2).cell; have f4' := (k4.ext hE2).froz; have f5' := (k5.ext hE2).froz))
    obtain ⟨cF4, cF5⟩ := fin5 (n := w.heap.size) (.slice A0 g.ns.length a0) (.slice B0 g.us.length b0) (.slice C0 g.rs.length c0) (.int .i64 (13)) (.int .u64 0) (k4.ext hE2) (k5.ext hE2)
    exact bodyPost_ret (v := .tuple #[.agg #[.slice A0 g.ns.length a0, .slice B0 g.us.length b0, .slice C0 g.rs.length c0], .agg #[.int .i64 (13), .int .u64 0]]) (by simp [results, Try.results27, go_sem, cF4, cF5]) rfl ⟨_, rfl, hg0.ext (ext5 (hE.trans hE2)), ext5 (hE.trans hE2)⟩
end Go.Proofs.Ytamghjilcfeheaa
