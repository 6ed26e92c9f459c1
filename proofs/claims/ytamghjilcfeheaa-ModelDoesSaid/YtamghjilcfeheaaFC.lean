/- The law ModelDoes, walked. Condition: none beyond the sizes of the slices. -/
import Derived.Test.YtamghjilcfeheaaFB
import Derived.Test.YtamghjilcfeheaaCK
namespace Go.Proofs.Ytamghjilcfeheaa
open Go.RowKit Go.Draw

/-- three graphs in a row, none of them large, all readable outside block d -/
def Tri (d : Nat) (w : World) (b : Nat) : Prop := ∀ k, k < 3 → ∃ (A B C : Option Addr) (a b' c : Nat) (g : Gr), w.cell? ⟨b, k * 3, none⟩ = some (.slice A g.ns.length a) ∧ w.cell? ⟨b, k * 3 + 1, none⟩ = some (.slice B g.us.length b') ∧ w.cell? ⟨b, k * 3 + 2, none⟩ = some (.slice C g.rs.length c) ∧ GRx [d] w (.agg #[.slice A g.ns.length a, .slice B g.us.length b', .slice C g.rs.length c]) g ∧ g.ns.length ≤ 900 ∧ g.us.length ≤ 1000 ∧ g.rs.length ≤ 1000
theorem Tri.but {d : Nat} {w w' : World} {b : Nat} (h : Tri d w b) (he : But [d] w w') (hb : b ≠ d) : Tri d w' b := by
  intro k hk
  obtain ⟨A, B, C, a, b', c, g, h1, h2, h3, h4, h5⟩ := h k hk
  have hbd : b ∉ [d] := fun hm => hb (List.mem_singleton.1 hm)
  exact ⟨A, B, C, a, b', c, g, cell_but he hbd h1, cell_but he hbd h2, cell_but he hbd h3, h4.but he, h5⟩
theorem tri_mk {d : Nat} {w : World} {b : Nat} {A B C A2 B2 C2 A3 B3 C3 : Option Addr} {x y z x2 y2 z2 x3 y3 z3 : Nat} {g g2 g3 : Gr} (h : Blk w b 26 #[.slice A g.ns.length x, .slice B g.us.length y, .slice C g.rs.length z, .slice A2 g2.ns.length x2, .slice B2 g2.us.length y2, .slice C2 g2.rs.length z2, .slice A3 g3.ns.length x3, .slice B3 g3.us.length y3, .slice C3 g3.rs.length z3])
    (h1 : GRx [d] w (.agg #[.slice A g.ns.length x, .slice B g.us.length y, .slice C g.rs.length z]) g) (h2 : GRx [d] w (.agg #[.slice A2 g2.ns.length x2, .slice B2 g2.us.length y2, .slice C2 g2.rs.length z2]) g2) (h3 : GRx [d] w (.agg #[.slice A3 g3.ns.length x3, .slice B3 g3.us.length y3, .slice C3 g3.rs.length z3]) g3)
    (k1 : g.ns.length ≤ 900 ∧ g.us.length ≤ 1000 ∧ g.rs.length ≤ 1000) (k2 : g2.ns.length ≤ 900 ∧ g2.us.length ≤ 1000 ∧ g2.rs.length ≤ 1000) (k3 : g3.ns.length ≤ 900 ∧ g3.us.length ≤ 1000 ∧ g3.rs.length ≤ 1000) : Tri d w b := by
  intro k hk
  obtain rfl | rfl | rfl : k = 0 ∨ k = 1 ∨ k = 2 := by omega
  · exact ⟨A, B, C, x, y, z, g, by rw [h.cell]; rfl, by rw [h.cell]; rfl, by rw [h.cell]; rfl, h1, k1⟩
  · exact ⟨A2, B2, C2, x2, y2, z2, g2, by rw [h.cell]; rfl, by rw [h.cell]; rfl, by rw [h.cell]; rfl, h2, k2⟩
  · exact ⟨A3, B3, C3, x3, y3, z3, g3, by rw [h.cell]; rfl, by rw [h.cell]; rfl, by rw [h.cell]; rfl, h3, k3⟩
/-- what an operation gives, by both roads -/
theorem does_both {g : Gr} (hv : Vld g) (hn : g.ns.length ≤ 900) (c a b e : Int) :
    ∃ (g1 : Gr) (er val : Int), Vld g1 ∧ g1.ns.length ≤ 901 ∧ (∀ (W : World) (v : Value), GRx [] W v g → Calls Try.prog 10 #[v, .agg #[.int .i64 c, .int .i64 a, .int .i64 b, .int .i64 e]] W (RetDo [] W (g1, er, val))) ∧
      ∀ (W : World) (v : Value), GRx [] W v g → Calls Try.prog 27 #[v, .agg #[.int .i64 c, .int .i64 a, .int .i64 b, .int .i64 e]] W (RetDo [] W (g1, er, val)) := by
  have hk := doT_keeps hv c a b e
  have hd := fun (W : World) (v : Value) (h : GRx [] W v g) => do10_any v g c a b e W (S := []) (by simp) h hv (by omega)
  have hd2 := fun (W : World) (v : Value) (h : GRx [] W v g) => do27_any v g c a b e W (S := []) (by simp) h hv (by omega)
  generalize doT g c a b e = y at hk hd hd2
  obtain ⟨y1, y2, y3⟩ := y
  refine ⟨y1, y2, y3, ?_, ?_, hd, hd2⟩
  · exact hk.v
  · have := hk.n
    simp only at this
    split at this <;> omega
theorem v25_of {gg : Gr} {b : Bool} (hb : vldB gg = b) (v : Value) (w : World) (hg : GRd w v gg) (hbb : gg.ns.length ≤ 1000 ∧ gg.us.length ≤ 1000 ∧ gg.rs.length ≤ 1000) : Calls Try.prog 25 #[v] w fun r w' => r = .returned (.bool b) ∧ Ext w w' := by
  subst hb
  exact valid25_raw v gg w hg hbb
set_option maxRecDepth 100000 in
set_option maxHeartbeats 2000000 in
theorem does_any (v : Value) (g : Gr) (p0 p1 p2 p3 : Int) (A : Option Addr) (n c : Nat) (zs : List Int) (k i x : Int) (w : World) (hg : GRd w v g) (hgn : g.ns.length ≤ 9223372036854775807) (hz : Rd w A n 1 (ints zs)) (hn : n ≤ 9223372036854775807) :
    Calls Try.prog 7 #[v, .agg #[.int .i64 p0, .int .i64 p1, .int .i64 p2, .int .i64 p3], .slice A n c, .int .i64 k, .int .i64 i, .int .i64 x] w fun r w' => r = .returned (.bool true) ∧ Ext w w' := by
  obtain ⟨A0, a0, B0, b0, C0, c0, rfl⟩ := hg.sl
  go_enter Try.func7, Try.ntmps7
  have hX := Ext.alloc (Ext.alloc (Ext.refl w) (.cells #[.slice A0 g.ns.length a0, .slice B0 g.us.length b0, .slice C0 g.rs.length c0] 26)) (.cells #[.int .i64 p0, .int .i64 p1, .int .i64 p2, .int .i64 p3] 37)
  have k6 : Blk ((w.alloc (.cells #[.slice A0 g.ns.length a0, .slice B0 g.us.length b0, .slice C0 g.rs.length c0] 26)).alloc (.cells #[.int .i64 p0, .int .i64 p1, .int .i64 p2, .int .i64 p3] 37)) w.heap.size 26 #[.slice A0 g.ns.length a0, .slice B0 g.us.length b0, .slice C0 g.rs.length c0] := Blk.alloc (Blk.new rfl) _
  have k7 : Blk ((w.alloc (.cells #[.slice A0 g.ns.length a0, .slice B0 g.us.length b0, .slice C0 g.rs.length c0] 26)).alloc (.cells #[.int .i64 p0, .int .i64 p1, .int .i64 p2, .int .i64 p3] 37)) (w.heap.size + 1) 37 #[.int .i64 p0, .int .i64 p1, .int .i64 p2, .int .i64 p3] := Blk.new (by simp)
  go_upto_region 3 with (first | (go_at_call 12; refine (light12_any _ g _ (hg.ext (by (repeat (first | (with_reducible exact xr _) | assumption | (with_reducible first | refine xa ?_ _ | refine xd ?_ | refine xl ?_) | refine xt ?_ (by assumption))))) hgn).mono ?_; rintro e w1 ⟨b, rfl, hbl, hE0⟩; cases b))
  · go_wp2_with (go_at_call 13; refine (awake_any _).mono ?_; rintro e w2 ⟨rfl, hE2⟩)
    go_ret
    exact ⟨rfl, Ext.trans (by (repeat (first | (with_reducible exact xr _) | assumption | (with_reducible first | refine xa ?_ _ | refine xd ?_ | refine xl ?_) | refine xt ?_ (by assumption)))) hE2⟩
  · obtain ⟨gn, gu, gr⟩ := by simpa using hbl
    obtain ⟨W, hW⟩ : ∃ W, W = w1 := ⟨_, rfl⟩
    subst hW
    have hEW : Ext w W := hX.trans hE0
    replace hg := (hg.ext hEW).rx.cons (Nat.le_refl W.heap.size)
    replace hz := hz.ext hEW
    replace k6 := k6.ext hE0
    replace k7 := k7.ext hE0
    have l6 := k6.lt
    have l7 := k7.lt
    clear hX hE0 hbl hgn
    go_upto_region 5 with (first | (go_at_call 9; refine (deck_any A n c zs _ (hz.ext (by (repeat (first | (with_reducible exact xr _) | assumption | (with_reducible first | refine xa ?_ _ | refine xd ?_ | refine xl ?_) | refine xt ?_ (by assumption))))) hn).mono ?_; rintro e w1 ⟨rfl, hDk, hE1⟩; have hz1 := hDk.lt) | (go_at_call 8; refine (graph8_any _ _ (S := [_]) (fun x hx => by have := List.mem_singleton.1 hx; subst this; exact hz1) (by simp) hDk).mono ?_; rintro e w1 ⟨v2, g2, rfl, hg2, hv2, hl50, hD2, hB2⟩; (obtain ⟨A2, a2, B2, b2, C2, c2, rfl⟩ := hg2.sl)))
    have hX5 := Ext.alloc (Ext.refl w1) (.cells #[.slice A2 g2.ns.length a2, .slice B2 g2.us.length b2, .slice C2 g2.rs.length c2] 26)
    have kO : Blk (w1.alloc (.cells #[.slice A2 g2.ns.length a2, .slice B2 g2.us.length b2, .slice C2 g2.rs.length c2] 26)) w1.heap.size 26 #[.slice A2 g2.ns.length a2, .slice B2 g2.us.length b2, .slice C2 g2.rs.length c2] := Blk.new rfl
    have hB5 : But [W.heap.size] W (w1.alloc (.cells #[.slice A2 g2.ns.length a2, .slice B2 g2.us.length b2, .slice C2 g2.rs.length c2] 26)) := ((hE1.but _).trans hB2).trans (hX5.but _)
    have hd1 : W.heap.size < w1.heap.size := hD2.lt
    replace hg := hg.but hB5
    replace hg2 := hg2.ext hX5
    replace hD2 := hD2.ext hX5
    replace k6 := k6.but hB5 (fun hm => by have := List.mem_singleton.1 hm; omega)
    replace k7 := k7.but hB5 (fun hm => by have := List.mem_singleton.1 hm; omega)
    have hE5 := But.ext hEW hB5 (fun x hx => by have := List.mem_singleton.1 hx; have := hEW.size_le; omega)
    have hwW := hEW.size_le
    generalize w1.alloc (.cells #[.slice A2 g2.ns.length a2, .slice B2 g2.us.length b2, .slice C2 g2.rs.length c2] 26) = W5 at hg hg2 hD2 k6 k7 kO hE5 ⊢
    generalize w1.heap.size = o at kO hd1 ⊢
    obtain ⟨d, hd⟩ : ∃ d, d = W.heap.size := ⟨_, rfl⟩
    rw [← hd] at hg hg2 hD2 hd1 hwW l6 l7 ⊢
    clear hd hX5 hB5 hB2 hE1 hDk hz1 hz hEW
    go_upto_region 7 with (first | (go_at_call 22; refine (new22_any _).mono ?_; rintro e w1 ⟨vA, vB, vC, qs, rfl, hGa, hEa⟩; (obtain ⟨Aa, aa, rfl⟩ := own_slice hGa.nodes); (obtain ⟨Ba, ba, rfl⟩ := own_slice hGa.used); (obtain ⟨Ca, ca, rfl⟩ := own_slice hGa.roots)) | (go_at_call 23; refine (new23_any _).mono ?_; rintro e w1 ⟨vA, vB, vC, qs, rfl, hGb, hEb⟩; (obtain ⟨Ab, ab, rfl⟩ := own_slice hGb.nodes); (obtain ⟨Bb, bb, rfl⟩ := own_slice hGb.used); (obtain ⟨Cb, cb, rfl⟩ := own_slice hGb.roots)) | (go_at_call 21; refine (same21_any _ _ newG _ (hGa.rd.ext (by (repeat (first | (with_reducible exact xr _) | assumption | (with_reducible first | refine xa ?_ _ | refine xd ?_ | refine xl ?_) | refine xt ?_ (by assumption))))) (hGb.rd.ext (by (repeat (first | (with_reducible exact xr _) | assumption | (with_reducible first | refine xa ?_ _ | refine xd ?_ | refine xl ?_) | refine xt ?_ (by assumption))))) (newG_vld.bd (by decide))).mono ?_; rintro e w1 ⟨rfl, hEc⟩))
    have hE6 : Ext W5 w1 := (hEa.trans hEb).trans hEc
    replace hg := hg.ext hE6
    replace hg2 := hg2.ext hE6
    replace hD2 := hD2.ext hE6
    replace k6 := k6.ext hE6
    replace k7 := k7.ext hE6
    replace kO := kO.ext hE6
    replace hE5 := hE5.trans hE6
    obtain ⟨V, hV⟩ : ∃ V, V = w1 := ⟨_, rfl⟩
    subst hV
    clear hE6 hEa hEb hEc hGa hGb
    have hdz := hD2.lt
    have c6 := k6.cell
    have l6' := k6.lt
    have cO := kO.cell
    have lO := kO.lt
    refine wp_region_treeN (V.heap.size) [] (.take 0 (.take 1 (.take 2 (.take 3 (.take 4 (.take 5 (.take 9 (.alt 6 (.alt 7 (.take 8 .done) .none) .none)))))))) Try.mixed (by kernel_rfl) ?_
    intro hx
    first
      | (refine wpT_takeN hx (by simp) (v := ?_) (ga (by rfl)) (by rfl) (fun _ hc => ?_) ?_
         rotate_left
         focus (go_simp; (try go_ints); exact rfl)
         simp only [Act.put, za, zb, zc])
      | (refine wpT_skip (ga (by rfl)) (by rfl) ?_; simp only [Act.put, za, zb, zc])
    first
      | (refine wpT_takeN hx (by simp) (v := ?_) (ga (by rfl)) (by rfl) (fun _ hc => ?_) ?_
         rotate_left
         focus (go_simp; (try go_ints); exact rfl)
         simp only [Act.put, za, zb, zc])
      | (refine wpT_skip (ga (by rfl)) (by rfl) ?_; simp only [Act.put, za, zb, zc])
    first
      | (refine wpT_takeN hx (by simp) (v := ?_) (ga (by rfl)) (by rfl) (fun _ hc => ?_) ?_
         rotate_left
         focus (go_simp; (try go_ints); exact rfl)
         simp only [Act.put, za, zb, zc])
      | (refine wpT_skip (ga (by rfl)) (by rfl) ?_; simp only [Act.put, za, zb, zc])
    first
      | (refine wpT_takeN hx (by simp) (v := ?_) (ga (by rfl)) (by rfl) (fun _ hc => ?_) ?_
         rotate_left
         focus (go_simp; (try go_ints); exact rfl)
         simp only [Act.put, za, zb, zc])
      | (refine wpT_skip (ga (by rfl)) (by rfl) ?_; simp only [Act.put, za, zb, zc])
    first
      | (refine wpT_takeN hx (by simp) (v := ?_) (ga (by rfl)) (by rfl) (fun _ hc => ?_) ?_
         rotate_left
         focus (go_simp; (try go_ints); exact rfl)
         simp only [Act.put, za, zb, zc])
      | (refine wpT_skip (ga (by rfl)) (by rfl) ?_; simp only [Act.put, za, zb, zc])
    first
      | (refine wpT_takeN hx (by simp) (v := ?_) (ga (by rfl)) (by rfl) (fun _ hc => ?_) ?_
         rotate_left
         focus (go_simp; (try go_ints); exact rfl)
         simp only [Act.put, za, zb, zc])
      | (refine wpT_skip (ga (by rfl)) (by rfl) ?_; simp only [Act.put, za, zb, zc])
    first
      | (refine wpT_takeN hx (by simp) (v := ?_) (ga (by rfl)) (by rfl) (fun _ hc => ?_) ?_
         rotate_left
         focus (go_simp; (try go_ints); exact rfl)
         simp only [Act.put, za, zb, zc])
      | (refine wpT_skip (ga (by rfl)) (by rfl) ?_; simp only [Act.put, za, zb, zc])
    refine wpT_call (ga (by rfl)) (by rfl) (fun K hK => ?_) ?_
    · skip
      go_simp
      go_at_call 24
      refine (spoilt24_any _ g2 k i x _ (hg2.rd.ext (by (repeat (first | (with_reducible exact xr _) | assumption | (with_reducible first | refine xa ?_ _ | refine xd ?_ | refine xl ?_) | refine xt ?_ (by assumption))))) hv2 hl50 (T := [d]) (fun x hx => by have := List.mem_singleton.1 hx; subst this; exact hdz)).mono ?_
      rintro e w1 ⟨v3, g3, rfl, hg3, hb3, hE3⟩; (obtain ⟨A3, a3, B3, b3, C3, c3, rfl⟩ := hg3.sl)
      refine hK _ _ ((hE3).bel _) ?_
      clear hK
      intro hr
      replace hx := hx.trans hr
      clear hr
      try simp only [Act.put, za, zb, zc]
      refine wpT_call (ga (by rfl)) (by rfl) (fun K hK => ?_) ?_
      · skip
        
        go_simp
        first | (refine hK _ _ ?_ ?_; (focus ((repeat (first | (with_reducible exact Bel.refl _ _ _) | assumption | (with_reducible exact Bel.alloc1 (by first | assumption | omega | (simp; omega))) | (with_reducible refine Bel.drew ?_) | (with_reducible refine Bel.drewL ?_) | (with_reducible refine Bel.setCell ?_ ?_ _; rotate_left; (focus (first | omega | (simp; done) | (simp; omega)))) | (with_reducible refine Bel.alloc ?_ _))); done))) | (refine hK undef _ ?_ ?_; (focus ((repeat (first | (with_reducible exact Bel.refl _ _ _) | assumption | (with_reducible exact Bel.alloc1 (by first | assumption | omega | (simp; omega))) | (with_reducible refine Bel.drew ?_) | (with_reducible refine Bel.drewL ?_) | (with_reducible refine Bel.setCell ?_ ?_ _; rotate_left; (focus (first | omega | (simp; done) | (simp; omega)))) | (with_reducible refine Bel.alloc ?_ _))); done)))
        clear hK
        intro hr
        have kL := blk_of_bel hr
        replace hx := hx.trans hr
        clear hr
        try simp only [Act.put, za, zb, zc]
        first
          | (refine wpT_takeN hx (by simp) (v := ?_) (ga (by rfl)) (by rfl) (fun _ hc => ?_) ?_
             rotate_left
             focus (go_simp; (try go_ints); exact rfl)
             simp only [Act.put, za, zb, zc])
          | (refine wpT_skip (ga (by rfl)) (by rfl) ?_; simp only [Act.put, za, zb, zc])
        refine wpT_done ?_
        have hX8 : Ext V (w1.alloc (.cells #[.slice A0 g.ns.length a0, .slice B0 g.us.length b0, .slice C0 g.rs.length c0, .slice A2 g2.ns.length a2, .slice B2 g2.us.length b2, .slice C2 g2.rs.length c2, .slice A3 g3.ns.length a3, .slice B3 g3.us.length b3, .slice C3 g3.rs.length c3] 26)) := ext_bel hx
        have hlu2 := hv2.lu
        have hlr2 := hv2.lr
        have hT := tri_mk kL (hg.ext hX8) (hg2.ext hX8) (hg3.ext (Ext.alloc (Ext.refl _) _)) ⟨by omega, by omega, by omega⟩ ⟨by omega, by omega, by omega⟩ hb3
        have hE8 := hE5.trans hX8
        have hD8 := hD2.ext hX8
        have k78 := k7.ext hX8
        have hbL : w1.heap.size ≠ d := by have := hE3.size_le; have : V.heap.size ≤ w1.heap.size := by simpa using this
                                          omega
        generalize w1.alloc (.cells #[.slice A0 g.ns.length a0, .slice B0 g.us.length b0, .slice C0 g.rs.length c0, .slice A2 g2.ns.length a2, .slice B2 g2.us.length b2, .slice C2 g2.rs.length c2, .slice A3 g3.ns.length a3, .slice B3 g3.us.length b3, .slice C3 g3.rs.length c3] 26) = W8 at hT hE8 hD8 k78 ⊢
        generalize w1.heap.size = bL at hT hbL ⊢
        clear hX8 kL hx hlu2 hlr2 hg hg2 hg3 hE3 hE5 k6 k7 kO c6 cO l6' lO hdz hD2
        go_wp2_with fail
        go_loopw [44] (fun s wr => ∃ k : Nat, k ≤ 3 ∧ s = .int .i64 k ∧ Ext w wr ∧ Dk wr d ∧ Tri d wr bL ∧ Blk wr (w.heap.size + 1) 37 #[.int .i64 p0, .int .i64 p1, .int .i64 p2, .int .i64 p3]) (fun s _ => 3 - (intOf s).toNat)
        case atStart => exact ⟨0, by omega, rfl, hE8, hD8, hT, k78⟩
        case round =>
          obtain ⟨k, hk, rfl, hEr, hDr, hTr, kp⟩ := hrel
          clear hT hE8 hD8 k78
          by_cases hk3 : k < 3
          · have dk : decide ((k : Int) < 3) = true := by simp; omega
            have dk' : decide (k < 3) = true := by simp; omega
            have hkI : (k : Int) < 3 := by omega
            obtain ⟨A1, B1, C1, a1, b1, c1, gg, f1, f2, f3, hg5, hbb0⟩ := hTr k hk3
            have hb3l := cell_lt f1
            obtain ⟨b, hb⟩ : ∃ b, vldB gg = b := ⟨_, rfl⟩
            have Hb := Lib.hid hb
            have hbb : gg.ns.length ≤ 1000 ∧ gg.us.length ≤ 1000 ∧ gg.rs.length ≤ 1000 := ⟨by omega, hbb0.2⟩
            clear hb
            go_upto_region 10 with fail
            have k9 : Blk (wr.alloc (.cells #[.slice A1 gg.ns.length a1, .slice B1 gg.us.length b1, .slice C1 gg.rs.length c1] 26)) wr.heap.size 26 #[.slice A1 gg.ns.length a1, .slice B1 gg.us.length b1, .slice C1 gg.rs.length c1] := Blk.new rfl
            have hE9 : Ext wr (wr.alloc (.cells #[.slice A1 gg.ns.length a1, .slice B1 gg.us.length b1, .slice C1 gg.rs.length c1] 26)) := Ext.alloc (Ext.refl _) _
            have hdr := hDr.lt
            generalize wr.alloc (.cells #[.slice A1 gg.ns.length a1, .slice B1 gg.us.length b1, .slice C1 gg.rs.length c1] 26) = W9 at k9 hE9 ⊢
            have hn9 : wr.heap.size ≠ d := by omega
            generalize wr.heap.size = b9 at k9 hn9 ⊢
            have hg9 := hg5.ext hE9
            replace hTr := hTr.but (hE9.but _) hbL
            replace hEr := hEr.trans hE9
            replace hDr := hDr.ext hE9
            replace kp := kp.ext hE9
            clear hg5 hE9 f1 f2 f3 hb3l hdr
            have c9 := k9.cell
            have l9 := k9.lt
            refine wp_region_treeE (.take 0 (.take 2 (.alt 1 (.alt 3 (.take 4 .done) .none) .none))) Try.mixed (by kernel_rfl) ?_
            intro hx
            first
              | (refine wpT_take hx (v := ?_) (ga (by rfl)) (by rfl) (fun _ hc => ?_) ?_
                 rotate_left
                 focus (go_simp; (try go_ints); exact rfl)
                 simp only [Act.put, za, zb, zc])
              | (refine wpT_skip (ga (by rfl)) (by rfl) ?_; simp only [Act.put, za, zb, zc])
            first
              | (refine wpT_take hx (v := ?_) (ga (by rfl)) (by rfl) (fun _ hc => ?_) ?_
                 rotate_left
                 focus (go_simp; (try go_ints); exact rfl)
                 simp only [Act.put, za, zb, zc])
              | (refine wpT_skip (ga (by rfl)) (by rfl) ?_; simp only [Act.put, za, zb, zc])
            refine wpT_call (ga (by rfl)) (by rfl) (fun K hK => ?_) ?_
            · skip
              go_simp
              go_at_call 25
              refine (v25_of Hb.out _ _ (hg9.rd.ext (by (repeat (first | (with_reducible exact xr _) | assumption | (with_reducible first | refine xa ?_ _ | refine xd ?_ | refine xl ?_) | refine xt ?_ (by assumption))))) hbb).mono ?_
              rintro e w1 ⟨rfl, hE1⟩
              refine hK _ _ (hE1) ?_
              clear hK
              intro hr
              replace hx := hx.trans hr
              clear hr
              try simp only [Act.put, za, zb, zc]
              refine wpT_call (ga (by rfl)) (by rfl) (fun K hK => ?_) ?_
              · skip
                go_simp
                go_at_call 14
                refine (valid_of Hb.out _ _ (hg9.rd.ext (by (repeat (first | (with_reducible exact xr _) | assumption | (with_reducible first | refine xa ?_ _ | refine xd ?_ | refine xl ?_) | refine xt ?_ (by assumption))))) hbb).mono ?_
                rintro e w1 ⟨rfl, hE2⟩
                refine hK _ _ (hE2) ?_
                clear hK
                intro hr
                replace hx := hx.trans hr
                clear hr
                try simp only [Act.put, za, zb, zc]
                first
                  | (refine wpT_take hx (v := ?_) (ga (by rfl)) (by rfl) (fun _ hc => ?_) ?_
                     rotate_left
                     focus (go_simp; (try go_ints); exact rfl)
                     simp only [Act.put, za, zb, zc])
                  | (refine wpT_skip (ga (by rfl)) (by rfl) ?_; simp only [Act.put, za, zb, zc])
                refine wpT_done ?_
                have hXa : Ext W9 w1 := by (repeat (first | (with_reducible exact xr _) | assumption | (with_reducible first | refine xa ?_ _ | refine xd ?_ | refine xl ?_) | refine xt ?_ (by assumption)))
                have hgb := hg9.ext hXa
                have k9b := k9.ext hXa
                have hTb := hTr.but (hXa.but _) hbL
                have hEb := hEr.trans hXa
                have hDb := hDr.ext hXa
                have kpb := kp.ext hXa
                obtain ⟨Wb, hWb⟩ : ∃ Wb, Wb = w1 := ⟨_, rfl⟩
                subst hWb
                clear hx hE1 hE2 hXa c9 l9 hg9 k9 hTr hEr hDr kp
                have c9 := k9b.cell
                have l9 := k9b.lt
                cases b with
                | false =>
                  go_wp2_with (go_at_call 14; refine (valid_of Hb.out _ _ hgb.rd hbb).mono ?_; rintro e w1 ⟨rfl, hE3⟩)
                  go_roundw
                  case rel => exact ⟨k + 1, by omega, by go_num, hEb.trans hE3, hDb.ext hE3, hTb.but (hE3.but _) hbL, kpb.ext hE3⟩
                  case measure => simp [intOf]; omega
                | true =>
                  have hv := vldB_true.1 Hb.out
                  go_upto_region 13 with (go_at_call 14; refine (valid_of Hb.out _ _ hgb.rd hbb).mono ?_; rintro e w1 ⟨rfl, hE3⟩)
                  have hXd : Ext Wb w1.drew := Ext.drew hE3
                  have hDc := hDb.ext hXd
                  have hgc := hgb.ext hXd
                  have c9 := (k9b.ext hE3).cell
                  have l9 := (k9b.ext hE3).lt
                  have cp := (kpb.ext hE3).cell
                  have lp := (kpb.ext hE3).lt
                  have np : w.heap.size + 1 ≠ d := by omega
                  obtain ⟨Wc, hWc⟩ : ∃ Wc, Wc = w1 := ⟨_, rfl⟩
                  subst hWc
                  refine wp_region_treeB [d] (.take 0 (.take 1 (.take 2 (.take 4 (.take 5 (.take 7 (.take 10 (.take 13 (.take 16 (.take 22 (.alt 3 (.alt 6 (.alt 8 (.take 9 (.alt 11 (.take 12 (.alt 14 (.take 15 (.alt 17 (.take 18 (.take 19 (.alt 20 (.take 21 .done) .none))) .none)) .none)) .none)) .none) .none) .none))))))))))) Try.mixed (by kernel_rfl) ?_
                  intro hx hy
                  first
                    | (refine wpT_takeB hx (v := ?_) (ga (by rfl)) (by rfl) (fun _ hc => ?_) ?_
                       rotate_left
                       focus (go_simp; (try go_ints); exact rfl)
                       simp only [Act.put, za, zb, zc])
                    | (refine wpT_skip (ga (by rfl)) (by rfl) ?_; simp only [Act.put, za, zb, zc])
                  first
                    | (refine wpT_takeB hx (v := ?_) (ga (by rfl)) (by rfl) (fun _ hc => ?_) ?_
                       rotate_left
                       focus (go_simp; (try go_ints); exact rfl)
                       simp only [Act.put, za, zb, zc])
                    | (refine wpT_skip (ga (by rfl)) (by rfl) ?_; simp only [Act.put, za, zb, zc])
                  first
                    | (refine wpT_takeB hx (v := ?_) (ga (by rfl)) (by rfl) (fun _ hc => ?_) ?_
                       rotate_left
                       focus (go_simp; (try go_ints); exact rfl)
                       simp only [Act.put, za, zb, zc])
                    | (refine wpT_skip (ga (by rfl)) (by rfl) ?_; simp only [Act.put, za, zb, zc])
                  first
                    | (refine wpT_takeB hx (v := ?_) (ga (by rfl)) (by rfl) (fun _ hc => ?_) ?_
                       rotate_left
                       focus (go_simp; (try go_ints); exact rfl)
                       simp only [Act.put, za, zb, zc])
                    | (refine wpT_skip (ga (by rfl)) (by rfl) ?_; simp only [Act.put, za, zb, zc])
                  first
                    | (refine wpT_takeB hx (v := ?_) (ga (by rfl)) (by rfl) (fun _ hc => ?_) ?_
                       rotate_left
                       focus (go_simp; (try go_ints); exact rfl)
                       simp only [Act.put, za, zb, zc])
                    | (refine wpT_skip (ga (by rfl)) (by rfl) ?_; simp only [Act.put, za, zb, zc])
                  first
                    | (refine wpT_takeB hx (v := ?_) (ga (by rfl)) (by rfl) (fun _ hc => ?_) ?_
                       rotate_left
                       focus (go_simp; (try go_ints); exact rfl)
                       simp only [Act.put, za, zb, zc])
                    | (refine wpT_skip (ga (by rfl)) (by rfl) ?_; simp only [Act.put, za, zb, zc])
                  first
                    | (refine wpT_takeB hx (v := ?_) (ga (by rfl)) (by rfl) (fun _ hc => ?_) ?_
                       rotate_left
                       focus (go_simp; (try go_ints); exact rfl)
                       simp only [Act.put, za, zb, zc])
                    | (refine wpT_skip (ga (by rfl)) (by rfl) ?_; simp only [Act.put, za, zb, zc])
                  first
                    | (refine wpT_takeB hx (v := ?_) (ga (by rfl)) (by rfl) (fun _ hc => ?_) ?_
                       rotate_left
                       focus (go_simp; (try go_ints); exact rfl)
                       simp only [Act.put, za, zb, zc])
                    | (refine wpT_skip (ga (by rfl)) (by rfl) ?_; simp only [Act.put, za, zb, zc])
                  first
                    | (refine wpT_takeB hx (v := ?_) (ga (by rfl)) (by rfl) (fun _ hc => ?_) ?_
                       rotate_left
                       focus (go_simp; (try go_ints); exact rfl)
                       simp only [Act.put, za, zb, zc])
                    | (refine wpT_skip (ga (by rfl)) (by rfl) ?_; simp only [Act.put, za, zb, zc])
                  first
                    | (refine wpT_takeB hx (v := ?_) (ga (by rfl)) (by rfl) (fun _ hc => ?_) ?_
                       rotate_left
                       focus (go_simp; (try go_ints); exact rfl)
                       simp only [Act.put, za, zb, zc])
                    | (refine wpT_skip (ga (by rfl)) (by rfl) ?_; simp only [Act.put, za, zb, zc])
                  refine wpT_call (ga (by rfl)) (by rfl) (fun K hK => ?_) ?_
                  · skip
                    go_simp
                    go_at_call 20
                    refine (op20_any d _ gg _ hDc hgc.rd hbb.2.1).mono ?_
                    rintro e w1 ⟨q0, q1, q2, q3, rfl, hD3, hB3⟩; replace hDc := hD3; replace hgc := hgc.but hB3
                    refine hK _ _ (But.trans hB3 (But.refl _ _)) ?_
                    clear hK
                    intro hr
                    replace hx := hx.trans hr
                    clear hr
                    try simp only [Act.put, za, zb, zc]
                    refine wpT_call (ga (by rfl)) (by rfl) (fun K hK => ?_) ?_
                    · skip
                      go_simp
                      go_at_call 20
                      refine (op20_any d _ gg _ hDc hgc.rd hbb.2.1).mono ?_
                      rintro e w1 ⟨r0, r1, r2, r3, rfl, hD4, hB4⟩; replace hDc := hD4; replace hgc := hgc.but hB4
                      refine hK _ _ (But.trans hB4 (But.refl _ _)) ?_
                      clear hK
                      intro hr
                      replace hx := hx.trans hr
                      clear hr
                      try simp only [Act.put, za, zb, zc]
                      refine wpT_call (ga (by rfl)) (by rfl) (fun K hK => ?_) ?_
                      · skip
                        go_simp
                        go_at_call 26
                        refine (next_any d _ _ hDc (by omega) (by omega)).mono ?_
                        rintro e w1 ⟨s0, rfl, hs00, hs01, hD5, hB5⟩; replace hDc := hD5; replace hgc := hgc.but hB5
                        refine hK _ _ (But.trans hB5 (But.refl _ _)) ?_
                        clear hK
                        intro hr
                        replace hx := hx.trans hr
                        clear hr
                        try simp only [Act.put, za, zb, zc]
                        first
                          | (refine wpT_takeB hx (v := ?_) (ga (by rfl)) (by rfl) (fun _ hc => ?_) ?_
                             rotate_left
                             focus (go_simp; (try go_ints); exact rfl)
                             simp only [Act.put, za, zb, zc])
                          | (refine wpT_skip (ga (by rfl)) (by rfl) ?_; simp only [Act.put, za, zb, zc])
                        refine wpT_call (ga (by rfl)) (by rfl) (fun K hK => ?_) ?_
                        · skip
                          go_simp
                          go_at_call 26
                          refine (next_any d _ _ hDc (by omega) (by omega)).mono ?_
                          rintro e w1 ⟨s1, rfl, hs10, hs11, hD6, hB6⟩; replace hDc := hD6; replace hgc := hgc.but hB6
                          refine hK _ _ (But.trans hB6 (But.refl _ _)) ?_
                          clear hK
                          intro hr
                          replace hx := hx.trans hr
                          clear hr
                          try simp only [Act.put, za, zb, zc]
                          first
                            | (refine wpT_takeB hx (v := ?_) (ga (by rfl)) (by rfl) (fun _ hc => ?_) ?_
                               rotate_left
                               focus (go_simp; (try go_ints); exact rfl)
                               simp only [Act.put, za, zb, zc])
                            | (refine wpT_skip (ga (by rfl)) (by rfl) ?_; simp only [Act.put, za, zb, zc])
                          refine wpT_call (ga (by rfl)) (by rfl) (fun K hK => ?_) ?_
                          · skip
                            go_simp
                            go_at_call 26
                            refine (next_any d _ _ hDc (by omega) (by omega)).mono ?_
                            rintro e w1 ⟨s2, rfl, hs20, hs21, hD7, hB7⟩; replace hDc := hD7; replace hgc := hgc.but hB7
                            refine hK _ _ (But.trans hB7 (But.refl _ _)) ?_
                            clear hK
                            intro hr
                            replace hx := hx.trans hr
                            clear hr
                            try simp only [Act.put, za, zb, zc]
                            first
                              | (refine wpT_takeB hx (v := ?_) (ga (by rfl)) (by rfl) (fun _ hc => ?_) ?_
                                 rotate_left
                                 focus (go_simp; (try go_ints); exact rfl)
                                 simp only [Act.put, za, zb, zc])
                              | (refine wpT_skip (ga (by rfl)) (by rfl) ?_; simp only [Act.put, za, zb, zc])
                            refine wpT_call (ga (by rfl)) (by rfl) (fun K hK => ?_) ?_
                            · skip
                              go_simp
                              go_at_call 26
                              refine (next_any d _ _ hDc (by omega) (by omega)).mono ?_
                              rintro e w1 ⟨s3, rfl, hs30, hs31, hD8, hB8⟩; replace hDc := hD8; replace hgc := hgc.but hB8
                              refine hK _ _ (But.trans hB8 (But.refl _ _)) ?_
                              clear hK
                              intro hr
                              replace hx := hx.trans hr
                              clear hr
                              try simp only [Act.put, za, zb, zc]
                              first
                                | (refine wpT_takeB hx (v := ?_) (ga (by rfl)) (by rfl) (fun _ hc => ?_) ?_
                                   rotate_left
                                   focus (go_simp; (try go_ints); exact rfl)
                                   simp only [Act.put, za, zb, zc])
                                | (refine wpT_skip (ga (by rfl)) (by rfl) ?_; simp only [Act.put, za, zb, zc])
                              first
                                | (refine wpT_takeB hx (v := ?_) (ga (by rfl)) (by rfl) (fun _ hc => ?_) ?_
                                   rotate_left
                                   focus (go_simp; (try go_ints); exact rfl)
                                   simp only [Act.put, za, zb, zc])
                                | (refine wpT_skip (ga (by rfl)) (by rfl) ?_; simp only [Act.put, za, zb, zc])
                              refine wpT_call (ga (by rfl)) (by rfl) (fun K hK => ?_) ?_
                              · skip
                                have hcy := Ext.cell hy
                                have hfy := Ext.froz hy
                                
                                go_simp
                                first | (refine hK _ _ ?_ ?_; (focus ((repeat (first | (with_reducible exact But.refl _ _) | assumption | (with_reducible refine But.drew ?_) | (with_reducible refine But.drewL ?_) | (with_reducible refine But.setCell ?_ ?_ _; rotate_left; (focus (simp; done))) | (with_reducible refine But.setCellL ?_ ?_; rotate_left; (focus (simp; done))) | (with_reducible refine But.alloc2 ?_ ?_; rotate_left; (focus (simp [World.setCell]; done))) | (with_reducible refine But.allocL ?_ ?_ ?_; rotate_left; (focus (simp; done)); (focus (simp; done))) | (with_reducible refine But.alloc ?_ _))); done))) | (refine hK undef _ ?_ ?_; (focus ((repeat (first | (with_reducible exact But.refl _ _) | assumption | (with_reducible refine But.drew ?_) | (with_reducible refine But.drewL ?_) | (with_reducible refine But.setCell ?_ ?_ _; rotate_left; (focus (simp; done))) | (with_reducible refine But.setCellL ?_ ?_; rotate_left; (focus (simp; done))) | (with_reducible refine But.alloc2 ?_ ?_; rotate_left; (focus (simp [World.setCell]; done))) | (with_reducible refine But.allocL ?_ ?_ ?_; rotate_left; (focus (simp; done)); (focus (simp; done))) | (with_reducible refine But.alloc ?_ _))); done)))
                                clear hK
                                intro hr
                                have kM := blk_of_but hr
                                replace hx := hx.trans hr
                                clear hr
                                try simp only [Act.put, za, zb, zc]
                                first
                                  | (refine wpT_takeB hx (v := ?_) (ga (by rfl)) (by rfl) (fun _ hc => ?_) ?_
                                     rotate_left
                                     focus (go_simp; (try go_ints); exact rfl)
                                     simp only [Act.put, za, zb, zc])
                                  | (refine wpT_skip (ga (by rfl)) (by rfl) ?_; simp only [Act.put, za, zb, zc])
                                refine wpT_done ?_
                                have hXm := Ext.alloc (Ext.refl w1) (.cells #[.int .i64 p0, .int .i64 p1, .int .i64 p2, .int .i64 p3, .int .i64 q0, .int .i64 q1, .int .i64 q2, .int .i64 q3, .int .i64 r0, .int .i64 r1, .int .i64 r2, .int .i64 r3, .int .i64 (1 + s0), .int .i64 (s1 - 3), .int .i64 (s2 - 3), .int .i64 (s3 - 3)] 37)
                                have hgM := (hgc.ext hXm)
                                have hDM := hDc.ext hXm
                                have hTM := hTb.but ((hXd.but _).trans hx) hbL
                                have kpM := kpb.but ((hXd.but _).trans hx) (fun hm => np (List.mem_singleton.1 hm))
                                have k9M := k9b.but ((hXd.but _).trans hx) (fun hm => hn9 (List.mem_singleton.1 hm))
                                have hEM := But.ext (hEb.trans hXd) hx (fun x hx => by have := List.mem_singleton.1 hx; omega)
                                generalize w1.alloc (.cells #[.int .i64 p0, .int .i64 p1, .int .i64 p2, .int .i64 p3, .int .i64 q0, .int .i64 q1, .int .i64 q2, .int .i64 q3, .int .i64 r0, .int .i64 r1, .int .i64 r2, .int .i64 r3, .int .i64 (1 + s0), .int .i64 (s1 - 3), .int .i64 (s2 - 3), .int .i64 (s3 - 3)] 37) = WM at kM hgM hDM hTM kpM k9M hEM ⊢
                                generalize w1.heap.size = bM at kM ⊢
                                clear hx hXm hgc hDc hcy hfy hXd hTb kpb k9b hEb hDb hgb c9 l9 cp lp hE3 hB3 hD3 hB4 hD4 hB5 hD5 hB6 hD6 hB7 hD7 hB8 hD8 hy
                                have hgm := hgM.less (S' := []) (by simp)
                                go_wp2_with fail
                                go_loopw [78] (fun s wr => ∃ j : Nat, j ≤ 4 ∧ s = .int .i64 j ∧ Ext WM wr) (fun s _ => 4 - (intOf s).toNat)
                                case atStart => exact ⟨0, by omega, rfl, Ext.refl _⟩
                                case round =>
                                  obtain ⟨j, hj, rfl, hE⟩ := hrel
                                  have cL := (kM.ext hE).cell
                                  have lL := (kM.ext hE).lt
                                  have kO4 := k9M.ext hE
                                  have cO := kO4.cell
                                  have lO4 := kO4.lt
                                  have hgr := hgm.ext hE
                                  by_cases hlt : j < 4
                                  · have hdec : decide ((j : Int) < 4) = true := by simp; omega
                                    have hdec' : decide (j < 4) = true := by simp; omega
                                    have hkb : (j : Int) < 4 := by omega
                                    have hop : ∃ c a b e : Int, wr.cell? ⟨bM, j * 4, none⟩ = some (.int .i64 c) ∧ wr.cell? ⟨bM, j * 4 + 1, none⟩ = some (.int .i64 a) ∧ wr.cell? ⟨bM, j * 4 + 2, none⟩ = some (.int .i64 b) ∧ wr.cell? ⟨bM, j * 4 + 3, none⟩ = some (.int .i64 e) := by
                                      obtain rfl | rfl | rfl | rfl : j = 0 ∨ j = 1 ∨ j = 2 ∨ j = 3 := by omega
                                      · exact ⟨p0, p1, p2, p3, cL 0, cL 1, cL 2, cL 3⟩
                                      · exact ⟨q0, q1, q2, q3, cL 4, cL 5, cL 6, cL 7⟩
                                      · exact ⟨r0, r1, r2, r3, cL 8, cL 9, cL 10, cL 11⟩
                                      · exact ⟨1 + s0, s1 - 3, s2 - 3, s3 - 3, cL 12, cL 13, cL 14, cL 15⟩
                                    obtain ⟨oc, oa, ob, oe, x0, x1, x2, x3⟩ := hop
                                    clear cL
                                    obtain ⟨g1, er, val, hv1, hn1, hdo, hdo2⟩ := does_both hv hbb0.1 oc oa ob oe
                                    have hbd1 := hv1.bd (by omega)
                                    go_upto_region 17 with (first | (go_at_call 10; refine (hdo _ _ (hgr.ext (by (repeat (first | (with_reducible exact xr _) | assumption | (with_reducible first | refine xa ?_ _ | refine xd ?_ | refine xl ?_) | refine xt ?_ (by assumption)))))).mono ?_; rintro e w1 ⟨v1, rfl, hga, hE1⟩; (obtain ⟨Aa, aa, Ba, ba, Ca, ca, rfl⟩ := hga.rd.sl)))
                                    have kp0 : Blk (wr.alloc (.cells #[.int .i64 oc, .int .i64 oa, .int .i64 ob, .int .i64 oe] 37)) wr.heap.size 37 #[.int .i64 oc, .int .i64 oa, .int .i64 ob, .int .i64 oe] := Blk.new rfl
                                    have hXp := Ext.alloc (Ext.refl wr) (.cells #[.int .i64 oc, .int .i64 oa, .int .i64 ob, .int .i64 oe] 37)
                                    have hX5 : Ext w1 ((w1.alloc (.cells #[.slice Aa g1.ns.length aa, .slice Ba g1.us.length ba, .slice Ca g1.rs.length ca] 26)).alloc (.cells #[.int .i64 er, .int .u64 val] 33)) := by (repeat (first | (with_reducible exact xr _) | assumption | (with_reducible first | refine xa ?_ _ | refine xd ?_ | refine xl ?_) | refine xt ?_ (by assumption)))
                                    have k10 : Blk ((w1.alloc (.cells #[.slice Aa g1.ns.length aa, .slice Ba g1.us.length ba, .slice Ca g1.rs.length ca] 26)).alloc (.cells #[.int .i64 er, .int .u64 val] 33)) w1.heap.size 26 #[.slice Aa g1.ns.length aa, .slice Ba g1.us.length ba, .slice Ca g1.rs.length ca] := Blk.alloc (Blk.new rfl) _
                                    have k11 : Blk ((w1.alloc (.cells #[.slice Aa g1.ns.length aa, .slice Ba g1.us.length ba, .slice Ca g1.rs.length ca] 26)).alloc (.cells #[.int .i64 er, .int .u64 val] 33)) (w1.heap.size + 1) 33 #[.int .i64 er, .int .u64 val] := Blk.new (by simp)
                                    generalize (w1.alloc (.cells #[.slice Aa g1.ns.length aa, .slice Ba g1.us.length ba, .slice Ca g1.rs.length ca] 26)).alloc (.cells #[.int .i64 er, .int .u64 val] 33) = W5 at hX5 k10 k11 ⊢
                                    have hE15 : Ext wr W5 := hXp.trans (hE1.trans hX5)
                                    have kp5 := kp0.ext (hE1.trans hX5)
                                    have hga5 := hga.ext hX5
                                    have hgr5 := hgr.ext hE15
                                    have kO5 := kO4.ext hE15
                                    generalize w1.heap.size + 1 = z11 at k11 ⊢
                                    generalize w1.heap.size = z10 at k10 ⊢
                                    generalize wr.heap.size = zp at kp5 ⊢
                                    have cp5 := kp5.cell
                                    have lp5 := kp5.lt
                                    have cO5 := kO5.cell
                                    have lo5 := kO5.lt
                                    have hEf : Ext WM W5 := hE.trans hE15
                                    clear kp0 hXp hX5 hE1 hga hgr x0 x1 x2 x3 cO lO4 lL hdo hE15
                                    go_upto_region 18 with (first | (go_at_call 27; refine (hdo2 _ _ (hgr5.ext (by (repeat (first | (with_reducible exact xr _) | assumption | (with_reducible first | refine xa ?_ _ | refine xd ?_ | refine xl ?_) | refine xt ?_ (by assumption)))))).mono ?_; rintro e w1 ⟨v1, rfl, hgd, hE1⟩; (obtain ⟨Ad, ad, Bd, bd, Cd, cd, rfl⟩ := hgd.rd.sl)))
                                    have hX6 : Ext W5 ((w1.alloc (.cells #[.slice Ad g1.ns.length ad, .slice Bd g1.us.length bd, .slice Cd g1.rs.length cd] 26)).alloc (.cells #[.int .i64 er, .int .u64 val] 33)) := hE1.trans (by (repeat (first | (with_reducible exact xr _) | assumption | (with_reducible first | refine xa ?_ _ | refine xd ?_ | refine xl ?_) | refine xt ?_ (by assumption))))
                                    have hX7 : Ext w1 ((w1.alloc (.cells #[.slice Ad g1.ns.length ad, .slice Bd g1.us.length bd, .slice Cd g1.rs.length cd] 26)).alloc (.cells #[.int .i64 er, .int .u64 val] 33)) := by (repeat (first | (with_reducible exact xr _) | assumption | (with_reducible first | refine xa ?_ _ | refine xd ?_ | refine xl ?_) | refine xt ?_ (by assumption)))
                                    have k12 : Blk ((w1.alloc (.cells #[.slice Ad g1.ns.length ad, .slice Bd g1.us.length bd, .slice Cd g1.rs.length cd] 26)).alloc (.cells #[.int .i64 er, .int .u64 val] 33)) w1.heap.size 26 #[.slice Ad g1.ns.length ad, .slice Bd g1.us.length bd, .slice Cd g1.rs.length cd] := Blk.alloc (Blk.new rfl) _
                                    have k13 : Blk ((w1.alloc (.cells #[.slice Ad g1.ns.length ad, .slice Bd g1.us.length bd, .slice Cd g1.rs.length cd] 26)).alloc (.cells #[.int .i64 er, .int .u64 val] 33)) (w1.heap.size + 1) 33 #[.int .i64 er, .int .u64 val] := Blk.new (by simp)
                                    generalize (w1.alloc (.cells #[.slice Ad g1.ns.length ad, .slice Bd g1.us.length bd, .slice Cd g1.rs.length cd] 26)).alloc (.cells #[.int .i64 er, .int .u64 val] 33) = W6 at hX6 hX7 k12 k13 ⊢
                                    have hga6 := hga5.ext hX6
                                    have hgd6 := hgd.ext hX7
                                    generalize w1.heap.size + 1 = z13 at k13 ⊢
                                    generalize w1.heap.size = z12 at k12 ⊢
                                    have c10 := (k10.ext hX6).cell
                                    have l10 := (k10.ext hX6).lt
                                    have c11 := (k11.ext hX6).cell
                                    have l11 := (k11.ext hX6).lt
                                    have c12 := k12.cell
                                    have l12 := k12.lt
                                    have c13 := k13.cell
                                    have l13 := k13.lt
                                    replace hEf := hEf.trans hX6
                                    clear hX7 hE1 hgd hga5 hgr5 cp5 lp5 cO5 lo5 hdo2
                                    go_wp2_with (first | (go_at_call 21; refine (same21_any _ _ g1 _ (hga6.rd.ext (by (repeat (first | (with_reducible exact xr _) | assumption | (with_reducible first | refine xa ?_ _ | refine xd ?_ | refine xl ?_) | refine xt ?_ (by assumption))))) (hgd6.rd.ext (by (repeat (first | (with_reducible exact xr _) | assumption | (with_reducible first | refine xa ?_ _ | refine xd ?_ | refine xl ?_) | refine xt ?_ (by assumption))))) hbd1).mono ?_; rintro e w1 ⟨rfl, hE7⟩))
                                    go_roundw
                                    case rel => exact ⟨j + 1, by omega, by go_num, hEf.trans hE7⟩
                                    case measure => simp [intOf]; omega
                                  · have hdec : decide ((j : Int) < 4) = false := decide_eq_false (by omega)
                                    have hdec' : decide (j < 4) = false := decide_eq_false hlt
                                    go_wp2_with fail
                                    go_roundw
                                    case rel => exact ⟨k + 1, by omega, by go_num, hEM.trans hE, hDM.ext hE, hTM.but (hE.but _) hbL, kpM.ext hE⟩
                                    case measure => simp [intOf]; omega
                              exact wpT_none
                            exact wpT_none
                          exact wpT_none
                        exact wpT_none
                      exact wpT_none
                    exact wpT_none
                  exact wpT_none
              exact wpT_none
            exact wpT_none
          · have dk : decide ((k : Int) < 3) = false := decide_eq_false (by omega)
            have dk' : decide (k < 3) = false := decide_eq_false hk3
            go_wp2_with (go_at_call 13; refine (awake_any _).mono ?_; rintro e w2 ⟨rfl, hE2⟩)
            go_ret
            exact ⟨rfl, hEr.trans hE2⟩
      exact wpT_none
    exact wpT_none
end Go.Proofs.Ytamghjilcfeheaa
