/- The walk of spoilt. Conditions: the ranges that the theorem states. -/
import Derived.Test.YtamghjilcfeheaaFA
namespace Go.Proofs.Ytamghjilcfeheaa
open Go.RowKit Go.Draw

/-- a graph, neither of its rows long -/
def RetSp (T : List Nat) (w : World) (r : Ending) (w' : World) : Prop := ∃ v' g', r = .returned v' ∧ GRx T w' v' g' ∧ (g'.ns.length ≤ 900 ∧ g'.us.length ≤ 1000 ∧ g'.rs.length ≤ 1000) ∧ Ext w w'
theorem ext3 {w W : World} {b : Nat} (h : Ext w W) (hb : w.heap.size ≤ b) (x y z : Value) : Ext w (((W.setCell ⟨b, 0, none⟩ x).setCell ⟨b, 1, none⟩ y).setCell ⟨b, 2, none⟩ z) := Ext.setCell (Ext.setCell (Ext.setCell h hb _) hb _) hb _
theorem but3 {W : World} {b : Nat} (x y z : Value) : But [b] W (((W.setCell ⟨b, 0, none⟩ x).setCell ⟨b, 1, none⟩ y).setCell ⟨b, 2, none⟩ z) := But.setCell (But.setCell (But.setCell (But.refl _ _) (by simp) _) (by simp) _) (by simp) _
theorem GOwn.past {w w' : World} {base o b : Nat} {vA vB vC : Value} {ps : List (Value × Value)} {g : Gr} (h : GOwn w base o vA vB vC ps g) (he : But [b] w w') (hb : b < base) : GOwn w' base o vA vB vC ps g :=
  h.but he (fun k q hk hm => by have := (h.lt k q hk).1; have := List.mem_singleton.1 hm; omega)
set_option maxRecDepth 100000 in
set_option maxHeartbeats 2000000 in
theorem spoilt24_any (v : Value) (g : Gr) (k i x : Int) (w : World) (hg : GRd w v g) (hv : Vld g) (hn : g.ns.length ≤ 50) {T : List Nat} (hT : ∀ x ∈ T, x < w.heap.size) :
    Calls Try.prog 24 #[v, .int .i64 k, .int .i64 i, .int .i64 x] w (RetSp T w) := by
  have hlu := Lib.hid hv.lu
  have hlr := Lib.hid hv.lr
  have hb := hv.bd (by omega)
  obtain ⟨A0, a0, B0, b0, C0, c0, rfl⟩ := hg.sl
  go_enter Try.func24, Try.ntmps24
  have hX0 := Ext.alloc (Ext.alloc (Ext.refl w) (.cells #[.slice A0 g.ns.length a0, .slice B0 g.us.length b0, .slice C0 g.rs.length c0] 26)) (.cells #[.slice none 0 0, .slice none 0 0, .slice none 0 0] 26)
  have k8 : Blk ((w.alloc (.cells #[.slice A0 g.ns.length a0, .slice B0 g.us.length b0, .slice C0 g.rs.length c0] 26)).alloc (.cells #[.slice none 0 0, .slice none 0 0, .slice none 0 0] 26)) (w.heap.size + 1) 26 #[.slice none 0 0, .slice none 0 0, .slice none 0 0] := Blk.new (by simp)
  go_upto_region 2 with (go_at_call 32; refine (copy_any _ g _ (hg.ext (by (repeat (first | (with_reducible exact xr _) | assumption | (with_reducible first | refine xa ?_ _ | refine xd ?_ | refine xl ?_) | refine xt ?_ (by assumption))))) hb).mono ?_; rintro e w1 ⟨vA, vB, vC, qs, rfl, hG, hE1⟩; obtain ⟨A1, a1, rfl⟩ := own_slice hG.nodes; obtain ⟨B1, b1, rfl⟩ := own_slice hG.used; obtain ⟨C1, c1, rfl⟩ := own_slice hG.roots)
  have hX1 := Ext.alloc (Ext.refl w1) (.cells #[.slice A1 g.ns.length a1, .slice B1 g.us.length b1, .slice C1 g.rs.length c1] 26)
  have kO : Blk (w1.alloc (.cells #[.slice A1 g.ns.length a1, .slice B1 g.us.length b1, .slice C1 g.rs.length c1] 26)) w1.heap.size 26 #[.slice A1 g.ns.length a1, .slice B1 g.us.length b1, .slice C1 g.rs.length c1] := Blk.new rfl
  have hE : Ext w (w1.alloc (.cells #[.slice A1 g.ns.length a1, .slice B1 g.us.length b1, .slice C1 g.rs.length c1] 26)) := hX0.trans (hE1.trans hX1)
  replace hG := (hG.off_ (Nat.le_refl _)).ext hX1
  replace k8 := k8.ext (hE1.trans hX1)
  have hs1 := hE1.size_le
  have hsb : w.heap.size + 2 ≤ ((w.alloc (.cells #[.slice A0 g.ns.length a0, .slice B0 g.us.length b0, .slice C0 g.rs.length c0] 26)).alloc (.cells #[.slice none 0 0, .slice none 0 0, .slice none 0 0] 26)).heap.size := by simp
  generalize ((w.alloc (.cells #[.slice A0 g.ns.length a0, .slice B0 g.us.length b0, .slice C0 g.rs.length c0] 26)).alloc (.cells #[.slice none 0 0, .slice none 0 0, .slice none 0 0] 26)).heap.size = base at hG hs1 hsb
  generalize w1.alloc (.cells #[.slice A1 g.ns.length a1, .slice B1 g.us.length b1, .slice C1 g.rs.length c1] 26) = W at hG k8 kO hE ⊢
  generalize w1.heap.size = o at hG kO hs1 ⊢
  clear hX0 hX1 hE1 hg hb
  have hb8 : w.heap.size ≤ w.heap.size + 1 := by omega
  have hbb : w.heap.size + 1 < base := by omega
  have hwb : w.heap.size ≤ base := by omega
  have hTb : ∀ x ∈ T, x < base := fun x hx => by have := hT x hx; omega
  have ho8 : o ≠ w.heap.size + 1 := by omega
  generalize w.heap.size + 1 = b8 at k8 hb8 hbb ho8 ⊢
  obtain ⟨q, hq, hq0, hq5⟩ : ∃ q, k % 5 = q ∧ 0 ≤ q ∧ q < 5 := ⟨_, rfl, Int.emod_nonneg _ (by omega), Int.emod_lt_of_pos _ (by omega)⟩
  obtain ⟨y, hy, hy0, hy1⟩ : ∃ y, x % ((g.ns.length : Int) + 3) = y ∧ 0 ≤ y ∧ y < (g.ns.length : Int) + 3 := ⟨_, rfl, Int.emod_nonneg _ (by omega), Int.emod_lt_of_pos _ (by omega)⟩
  have Hq := Lib.hid hq
  have Hy := Lib.hid hy
  have hr0 : 0 < g.rs.length := by have := hv.lr; omega
  have hr1 : g.rs.length ≤ 1000 := by have := hv.lr; omega
  have hu0 : 0 < g.us.length := by have := hv.lu; omega
  have hu1 : g.us.length ≤ 1000 := by have := hv.lu; omega
  have cO := kO.cell
  have lO := kO.lt
  have c8 := k8.cell
  have f8 := k8.froz
  have l8 := k8.lt
  clear hq hy
  go_upto_region 3 with (go_at_call 11; refine (mod_is k 5 q _ (by omega) (by omega) Hq.out).mono ?_; rintro e w1 ⟨rfl, rfl⟩)
  obtain rfl | rfl | rfl | rfl | rfl : q = 0 ∨ q = 1 ∨ q = 2 ∨ q = 3 ∨ q = 4 := by omega
  · obtain ⟨j, hj, hjn⟩ := mod_nat i g.rs.length hr0
    obtain ⟨bC, cC, hC⟩ := own_at hG.roots hr0
    injection hC with hC1 hC2 hC3
    subst hC1 hC3
    have Hj := Lib.hid hj
    obtain ⟨hcC, hfC⟩ := own_cells hG.roots
    have hcj := hcC j _ (ints_at (List.getElem?_eq_getElem hjn))
    have hfj := hfC j
    have hnC : o ≠ bC := fun e => hG.off .C (by rw [e]; rfl)
    have hbC : base ≤ bC := (World.ownsRow.lt hG.roots bC rfl).1
    have hjI : (j : Int) < g.rs.length := by omega
    clear hj hcC hfC
    go_upto_region 4 with fail
    refine wp_region_treeB [bC] (.take 0 (.take 1 (.take 2 (.take 3 (.take 4 (.take 5 (.take 7 (.take 8 (.take 9 (.take 10 (.take 11 (.alt 6 (.alt 12 (.take 13 (.take 14 (.alt 15 .done .none))) .none) .none)))))))))))) Try.mixed (by kernel_rfl) ?_
    intro hx hy
    first
      | (refine wpT_takeB hx (v := ?_) (ga (by rfl)) (by rfl) (fun _ hc => ?_) ?_
         rotate_left
         focus (go_simp; (try go_ints); exact rfl)
         simp only [Act.put, za, zb, zc])
      | (refine wpT_skip (ga (by rfl)) (by rfl) ?_; simp only [Act.put, za, zb, zc])
    first
      | (refine wpT_takeB hx (v := ?_) (ga (by rfl)) (by rfl) (fun _ hc => ?_) ?_
         rotate_left
         focus (go_simp; (try go_ints); exact rfl)
         simp only [Act.put, za, zb, zc])
      | (refine wpT_skip (ga (by rfl)) (by rfl) ?_; simp only [Act.put, za, zb, zc])
    first
      | (refine wpT_takeB hx (v := ?_) (ga (by rfl)) (by rfl) (fun _ hc => ?_) ?_
         rotate_left
         focus (go_simp; (try go_ints); exact rfl)
         simp only [Act.put, za, zb, zc])
      | (refine wpT_skip (ga (by rfl)) (by rfl) ?_; simp only [Act.put, za, zb, zc])
    first
      | (refine wpT_takeB hx (v := ?_) (ga (by rfl)) (by rfl) (fun _ hc => ?_) ?_
         rotate_left
         focus (go_simp; (try go_ints); exact rfl)
         simp only [Act.put, za, zb, zc])
      | (refine wpT_skip (ga (by rfl)) (by rfl) ?_; simp only [Act.put, za, zb, zc])
    first
      | (refine wpT_takeB hx (v := ?_) (ga (by rfl)) (by rfl) (fun _ hc => ?_) ?_
         rotate_left
         focus (go_simp; (try go_ints); exact rfl)
         simp only [Act.put, za, zb, zc])
      | (refine wpT_skip (ga (by rfl)) (by rfl) ?_; simp only [Act.put, za, zb, zc])
    first
      | (refine wpT_takeB hx (v := ?_) (ga (by rfl)) (by rfl) (fun _ hc => ?_) ?_
         rotate_left
         focus (go_simp; (try go_ints); exact rfl)
         simp only [Act.put, za, zb, zc])
      | (refine wpT_skip (ga (by rfl)) (by rfl) ?_; simp only [Act.put, za, zb, zc])
    first
      | (refine wpT_takeB hx (v := ?_) (ga (by rfl)) (by rfl) (fun _ hc => ?_) ?_
         rotate_left
         focus (go_simp; (try go_ints); exact rfl)
         simp only [Act.put, za, zb, zc])
      | (refine wpT_skip (ga (by rfl)) (by rfl) ?_; simp only [Act.put, za, zb, zc])
    first
      | (refine wpT_takeB hx (v := ?_) (ga (by rfl)) (by rfl) (fun _ hc => ?_) ?_
         rotate_left
         focus (go_simp; (try go_ints); exact rfl)
         simp only [Act.put, za, zb, zc])
      | (refine wpT_skip (ga (by rfl)) (by rfl) ?_; simp only [Act.put, za, zb, zc])
    first
      | (refine wpT_takeB hx (v := ?_) (ga (by rfl)) (by rfl) (fun _ hc => ?_) ?_
         rotate_left
         focus (go_simp; (try go_ints); exact rfl)
         simp only [Act.put, za, zb, zc])
      | (refine wpT_skip (ga (by rfl)) (by rfl) ?_; simp only [Act.put, za, zb, zc])
    first
      | (refine wpT_takeB hx (v := ?_) (ga (by rfl)) (by rfl) (fun _ hc => ?_) ?_
         rotate_left
         focus (go_simp; (try go_ints); exact rfl)
         simp only [Act.put, za, zb, zc])
      | (refine wpT_skip (ga (by rfl)) (by rfl) ?_; simp only [Act.put, za, zb, zc])
    first
      | (refine wpT_takeB hx (v := ?_) (ga (by rfl)) (by rfl) (fun _ hc => ?_) ?_
         rotate_left
         focus (go_simp; (try go_ints); exact rfl)
         simp only [Act.put, za, zb, zc])
      | (refine wpT_skip (ga (by rfl)) (by rfl) ?_; simp only [Act.put, za, zb, zc])
    refine wpT_call (ga (by rfl)) (by rfl) (fun K hK => ?_) ?_
    · skip
      go_simp
      go_at_call 11
      refine (mod_is i g.rs.length j _ (by omega) (by omega) Hj.out).mono ?_
      rintro e w1 ⟨rfl, rfl⟩
      refine hK _ _ (But.refl _ _) ?_
      clear hK
      intro hr
      replace hx := hx.trans hr
      clear hr
      try simp only [Act.put, za, zb, zc]
      refine wpT_call (ga (by rfl)) (by rfl) (fun K hK => ?_) ?_
      · skip
        go_simp
        go_at_call 11
        refine (mod_is x (g.ns.length + 3) y _ (by omega) (by omega) Hy.out).mono ?_
        rintro e w1 ⟨rfl, rfl⟩
        refine hK _ _ (But.refl _ _) ?_
        clear hK
        intro hr
        replace hx := hx.trans hr
        clear hr
        try simp only [Act.put, za, zb, zc]
        first
          | (refine wpT_takeB hx (v := ?_) (ga (by rfl)) (by rfl) (fun _ hc => ?_) ?_
             rotate_left
             focus (go_simp; (try go_ints); exact rfl)
             simp only [Act.put, za, zb, zc])
          | (refine wpT_skip (ga (by rfl)) (by rfl) ?_; simp only [Act.put, za, zb, zc])
        first
          | (refine wpT_takeB hx (v := ?_) (ga (by rfl)) (by rfl) (fun _ hc => ?_) ?_
             rotate_left
             focus (go_simp; (try go_ints); exact rfl)
             simp only [Act.put, za, zb, zc])
          | (refine wpT_skip (ga (by rfl)) (by rfl) ?_; simp only [Act.put, za, zb, zc])
        refine wpT_store (ga (by rfl)) rfl (by rfl) (fun K hK => ?_) ?_
        · skip
          have hcy := Ext.cell hy
          have hfy := Ext.froz hy
          go_simp
          refine hK _ ?_ ?_
          focus ((repeat (first | (with_reducible exact But.refl _ _) | assumption | (with_reducible refine But.drew ?_) | (with_reducible refine But.drewL ?_) | (with_reducible refine But.setCell ?_ ?_ _; rotate_left; (focus (simp; done))) | (with_reducible refine But.setCellL ?_ ?_; rotate_left; (focus (simp; done))) | (with_reducible refine But.alloc2 ?_ ?_; rotate_left; (focus (simp [World.setCell]; done))) | (with_reducible refine But.allocL ?_ ?_ ?_; rotate_left; (focus (simp; done)); (focus (simp; done))) | (with_reducible refine But.alloc ?_ _))); done)
          clear hK
          intro hr
          replace hx := hx.trans hr
          clear hr
          try simp only [Act.put, za, zb, zc]
          refine wpT_done ?_
          have hG2 : GOwn (W.setCell ⟨bC, j, none⟩ (.int .i64 (y - 2))).drew base o (.slice A1 g.ns.length a1) (.slice B1 g.us.length b1) (.slice (some ⟨bC, 0, none⟩) g.rs.length c1) qs { g with rs := g.rs.set j (y - 2) } := (hG.setC rfl j (y - 2)).ext (Ext.drew (Ext.refl _))
          have kO2 := ((kO.far (p := ⟨bC, j, none⟩) hnC (.int .i64 (y - 2)))).drew
          have k82 := ((k8.far (p := ⟨bC, j, none⟩) (show b8 ≠ bC by omega) (.int .i64 (y - 2)))).drew
          have hE2 : Ext w (W.setCell ⟨bC, j, none⟩ (.int .i64 (y - 2))).drew := Ext.drew (Ext.setCell hE (show w.heap.size ≤ bC by omega) _)
          generalize (W.setCell ⟨bC, j, none⟩ (.int .i64 (y - 2))).drew = W2 at hG2 kO2 k82 hE2 ⊢
          have cO2 := kO2.cell
          have lO2 := kO2.lt
          have c82 := k82.cell
          have f82 := k82.froz
          have l82 := k82.lt
          clear hx hcy hfy hy cO c8 f8 hcj hfj
          go_wp2
          have k8f := (((k82).set_ 0 (.slice (A1) g.ns.length a1)).set_ 1 (.slice (B1) g.us.length b1)).set_ 2 (.slice (some ⟨bC, 0, none⟩) g.rs.length c1)
          have cF := k8f.cell
          exact bodyPost_ret (v := .agg #[.slice (A1) g.ns.length a1, .slice (B1) g.us.length b1, .slice (some ⟨bC, 0, none⟩) g.rs.length c1]) (by simp [results, Try.results24, go_sem, cF]) rfl ⟨_, _, rfl, (hG2.past (but3 _ _ _) hbb).rdx hTb, ⟨by show g.ns.length ≤ 900; omega, by show g.us.length ≤ 1000; omega, by simp; omega⟩, ext3 (hE2) hb8 _ _ _⟩
        exact wpT_none
      exact wpT_none
    exact wpT_none
  · obtain ⟨j, hj, hjn⟩ := mod_nat i g.us.length hu0
    obtain ⟨bB, cB, hB⟩ := own_at hG.used hu0
    injection hB with hB1 hB2 hB3
    subst hB1 hB3
    have Hj := Lib.hid hj
    obtain ⟨hcB, hfB⟩ := own_cells hG.used
    have hcj := hcB j _ (vb_at (List.getElem?_eq_getElem hjn))
    generalize hu : g.us[j] = u at hcj
    have hfj := hfB j
    have hnB : o ≠ bB := fun e => hG.off .B (by rw [e]; rfl)
    have hbB : base ≤ bB := (World.ownsRow.lt hG.used bB rfl).1
    have hjI : (j : Int) < g.us.length := by omega
    clear hj hcB hfB hu
    go_upto_region 7 with (go_at_call 11; refine (mod_is i g.us.length j _ (by omega) (by omega) Hj.out).mono ?_; rintro e w1 ⟨rfl, rfl⟩)
    refine wp_region_treeB [bB] (.take 0 (.take 1 (.take 2 (.take 3 (.take 4 (.take 5 (.take 6 (.alt 7 (.take 8 (.take 9 (.alt 10 .done .none))) .none)))))))) Try.mixed (by kernel_rfl) ?_
    intro hx hy
    first
      | (refine wpT_takeB hx (v := ?_) (ga (by rfl)) (by rfl) (fun _ hc => ?_) ?_
         rotate_left
         focus (go_simp; (try go_ints); exact rfl)
         simp only [Act.put, za, zb, zc])
      | (refine wpT_skip (ga (by rfl)) (by rfl) ?_; simp only [Act.put, za, zb, zc])
    first
      | (refine wpT_takeB hx (v := ?_) (ga (by rfl)) (by rfl) (fun _ hc => ?_) ?_
         rotate_left
         focus (go_simp; (try go_ints); exact rfl)
         simp only [Act.put, za, zb, zc])
      | (refine wpT_skip (ga (by rfl)) (by rfl) ?_; simp only [Act.put, za, zb, zc])
    first
      | (refine wpT_takeB hx (v := ?_) (ga (by rfl)) (by rfl) (fun _ hc => ?_) ?_
         rotate_left
         focus (go_simp; (try go_ints); exact rfl)
         simp only [Act.put, za, zb, zc])
      | (refine wpT_skip (ga (by rfl)) (by rfl) ?_; simp only [Act.put, za, zb, zc])
    first
      | (refine wpT_takeB hx (v := ?_) (ga (by rfl)) (by rfl) (fun _ hc => ?_) ?_
         rotate_left
         focus (go_simp; (try go_ints); exact rfl)
         simp only [Act.put, za, zb, zc])
      | (refine wpT_skip (ga (by rfl)) (by rfl) ?_; simp only [Act.put, za, zb, zc])
    first
      | (refine wpT_takeB hx (v := ?_) (ga (by rfl)) (by rfl) (fun _ hc => ?_) ?_
         rotate_left
         focus (go_simp; (try go_ints); exact rfl)
         simp only [Act.put, za, zb, zc])
      | (refine wpT_skip (ga (by rfl)) (by rfl) ?_; simp only [Act.put, za, zb, zc])
    first
      | (refine wpT_takeB hx (v := ?_) (ga (by rfl)) (by rfl) (fun _ hc => ?_) ?_
         rotate_left
         focus (go_simp; (try go_ints); exact rfl)
         simp only [Act.put, za, zb, zc])
      | (refine wpT_skip (ga (by rfl)) (by rfl) ?_; simp only [Act.put, za, zb, zc])
    first
      | (refine wpT_takeB hx (v := ?_) (ga (by rfl)) (by rfl) (fun _ hc => ?_) ?_
         rotate_left
         focus (go_simp; (try go_ints); exact rfl)
         simp only [Act.put, za, zb, zc])
      | (refine wpT_skip (ga (by rfl)) (by rfl) ?_; simp only [Act.put, za, zb, zc])
    refine wpT_call (ga (by rfl)) (by rfl) (fun K hK => ?_) ?_
    · skip
      have hcy := Ext.cell hy
      have hfy := Ext.froz hy
      go_simp
      first | (refine hK _ _ ?_ ?_; (focus ((repeat (first | (with_reducible exact But.refl _ _) | assumption | (with_reducible refine But.drew ?_) | (with_reducible refine But.drewL ?_) | (with_reducible refine But.setCell ?_ ?_ _; rotate_left; (focus (simp; done))) | (with_reducible refine But.setCellL ?_ ?_; rotate_left; (focus (simp; done))) | (with_reducible refine But.alloc2 ?_ ?_; rotate_left; (focus (simp [World.setCell]; done))) | (with_reducible refine But.allocL ?_ ?_ ?_; rotate_left; (focus (simp; done)); (focus (simp; done))) | (with_reducible refine But.alloc ?_ _))); done))) | (refine hK undef _ ?_ ?_; (focus ((repeat (first | (with_reducible exact But.refl _ _) | assumption | (with_reducible refine But.drew ?_) | (with_reducible refine But.drewL ?_) | (with_reducible refine But.setCell ?_ ?_ _; rotate_left; (focus (simp; done))) | (with_reducible refine But.setCellL ?_ ?_; rotate_left; (focus (simp; done))) | (with_reducible refine But.alloc2 ?_ ?_; rotate_left; (focus (simp [World.setCell]; done))) | (with_reducible refine But.allocL ?_ ?_ ?_; rotate_left; (focus (simp; done)); (focus (simp; done))) | (with_reducible refine But.alloc ?_ _))); done)))
      clear hK
      intro hr
      replace hx := hx.trans hr
      clear hr
      try simp only [Act.put, za, zb, zc]
      first
        | (refine wpT_takeB hx (v := ?_) (ga (by rfl)) (by rfl) (fun _ hc => ?_) ?_
           rotate_left
           focus (go_simp; (try go_ints); exact rfl)
           simp only [Act.put, za, zb, zc])
        | (refine wpT_skip (ga (by rfl)) (by rfl) ?_; simp only [Act.put, za, zb, zc])
      first
        | (refine wpT_takeB hx (v := ?_) (ga (by rfl)) (by rfl) (fun _ hc => ?_) ?_
           rotate_left
           focus (go_simp; (try go_ints); exact rfl)
           simp only [Act.put, za, zb, zc])
        | (refine wpT_skip (ga (by rfl)) (by rfl) ?_; simp only [Act.put, za, zb, zc])
      refine wpT_store (ga (by rfl)) rfl (by rfl) (fun K hK => ?_) ?_
      · skip
        have hcy := Ext.cell hy
        have hfy := Ext.froz hy
        go_simp
        refine hK _ ?_ ?_
        focus ((repeat (first | (with_reducible exact But.refl _ _) | assumption | (with_reducible refine But.drew ?_) | (with_reducible refine But.drewL ?_) | (with_reducible refine But.setCell ?_ ?_ _; rotate_left; (focus (simp; done))) | (with_reducible refine But.setCellL ?_ ?_; rotate_left; (focus (simp; done))) | (with_reducible refine But.alloc2 ?_ ?_; rotate_left; (focus (simp [World.setCell]; done))) | (with_reducible refine But.allocL ?_ ?_ ?_; rotate_left; (focus (simp; done)); (focus (simp; done))) | (with_reducible refine But.alloc ?_ _))); done)
        clear hK
        intro hr
        replace hx := hx.trans hr
        clear hr
        try simp only [Act.put, za, zb, zc]
        refine wpT_done ?_
        have hG2 : GOwn (W.setCell ⟨bB, j, none⟩ (.bool (!u))).drew base o (.slice A1 g.ns.length a1) (.slice (some ⟨bB, 0, none⟩) g.us.length b1) (.slice C1 g.rs.length c1) qs { g with us := g.us.set j (!u) } := (hG.setU rfl j (!u)).ext (Ext.drew (Ext.refl _))
        have kO2 := ((kO.far (p := ⟨bB, j, none⟩) hnB (.bool (!u)))).drew
        have k82 := ((k8.far (p := ⟨bB, j, none⟩) (show b8 ≠ bB by omega) (.bool (!u)))).drew
        have hE2 : Ext w (W.setCell ⟨bB, j, none⟩ (.bool (!u))).drew := Ext.drew (Ext.setCell hE (show w.heap.size ≤ bB by omega) _)
        generalize (W.setCell ⟨bB, j, none⟩ (.bool (!u))).drew = W2 at hG2 kO2 k82 hE2 ⊢
        have cO2 := kO2.cell
        have lO2 := kO2.lt
        have c82 := k82.cell
        have f82 := k82.froz
        have l82 := k82.lt
        clear hx hcy hfy hy cO c8 f8 hcj hfj
        go_wp2
        have k8f := (((k82).set_ 0 (.slice (A1) g.ns.length a1)).set_ 1 (.slice (some ⟨bB, 0, none⟩) g.us.length b1)).set_ 2 (.slice (C1) g.rs.length c1)
        have cF := k8f.cell
        exact bodyPost_ret (v := .agg #[.slice (A1) g.ns.length a1, .slice (some ⟨bB, 0, none⟩) g.us.length b1, .slice (C1) g.rs.length c1]) (by simp [results, Try.results24, go_sem, cF]) rfl ⟨_, _, rfl, (hG2.past (but3 _ _ _) hbb).rdx hTb, ⟨by show g.ns.length ≤ 900; omega, by simp; omega, by show g.rs.length ≤ 1000; omega⟩, ext3 (hE2) hb8 _ _ _⟩
      exact wpT_none
    exact wpT_none
  · by_cases hn0 : 0 < g.ns.length
    · obtain ⟨m, hj, hjn⟩ := mod_nat i g.ns.length hn0
      obtain ⟨bA, cA, hA⟩ := own_at hG.nodes hn0
      injection hA with hA1 hA2 hA3
      subst hA1 hA3
      have Hj := Lib.hid hj
      have hd0 : decide ((0 : Int) < g.ns.length) = true := by simp; omega
      have hd0' : decide (0 < g.ns.length) = true := by simp; omega
      have hjI : (m : Int) < g.ns.length := by omega
      clear hj
      go_upto_region 10 with fail
      refine wp_region_treeN (W.heap.size) [] (.take 0 (.take 1 (.take 2 (.take 3 (.take 4 (.take 5 (.alt 6 (.take 7 (.take 8 .done)) .none))))))) Try.mixed (by kernel_rfl) ?_
      intro hx
      first
        | (refine wpT_takeN hx (by simp) (v := ?_) (ga (by rfl)) (by rfl) (fun _ hc => ?_) ?_
           rotate_left
           focus (go_simp; (try go_ints); exact rfl)
           simp only [Act.put, za, zb, zc])
        | (refine wpT_skip (ga (by rfl)) (by rfl) ?_; simp only [Act.put, za, zb, zc])
      first
        | (refine wpT_takeN hx (by simp) (v := ?_) (ga (by rfl)) (by rfl) (fun _ hc => ?_) ?_
           rotate_left
           focus (go_simp; (try go_ints); exact rfl)
           simp only [Act.put, za, zb, zc])
        | (refine wpT_skip (ga (by rfl)) (by rfl) ?_; simp only [Act.put, za, zb, zc])
      first
        | (refine wpT_takeN hx (by simp) (v := ?_) (ga (by rfl)) (by rfl) (fun _ hc => ?_) ?_
           rotate_left
           focus (go_simp; (try go_ints); exact rfl)
           simp only [Act.put, za, zb, zc])
        | (refine wpT_skip (ga (by rfl)) (by rfl) ?_; simp only [Act.put, za, zb, zc])
      first
        | (refine wpT_takeN hx (by simp) (v := ?_) (ga (by rfl)) (by rfl) (fun _ hc => ?_) ?_
           rotate_left
           focus (go_simp; (try go_ints); exact rfl)
           simp only [Act.put, za, zb, zc])
        | (refine wpT_skip (ga (by rfl)) (by rfl) ?_; simp only [Act.put, za, zb, zc])
      first
        | (refine wpT_takeN hx (by simp) (v := ?_) (ga (by rfl)) (by rfl) (fun _ hc => ?_) ?_
           rotate_left
           focus (go_simp; (try go_ints); exact rfl)
           simp only [Act.put, za, zb, zc])
        | (refine wpT_skip (ga (by rfl)) (by rfl) ?_; simp only [Act.put, za, zb, zc])
      first
        | (refine wpT_takeN hx (by simp) (v := ?_) (ga (by rfl)) (by rfl) (fun _ hc => ?_) ?_
           rotate_left
           focus (go_simp; (try go_ints); exact rfl)
           simp only [Act.put, za, zb, zc])
        | (refine wpT_skip (ga (by rfl)) (by rfl) ?_; simp only [Act.put, za, zb, zc])
      refine wpT_call (ga (by rfl)) (by rfl) (fun K hK => ?_) ?_
      · skip
        go_simp
        go_at_call 11
        refine (mod_is i g.ns.length m _ (by omega) (by omega) Hj.out).mono ?_
        rintro e w1 ⟨rfl, rfl⟩
        refine hK _ _ ((Ext.refl _).bel _) ?_
        clear hK
        intro hr
        replace hx := hx.trans hr
        clear hr
        try simp only [Act.put, za, zb, zc]
        first
          | (refine wpT_takeN hx (by simp) (v := ?_) (ga (by rfl)) (by rfl) (fun _ hc => ?_) ?_
             rotate_left
             focus (go_simp; (try go_ints); exact rfl)
             simp only [Act.put, za, zb, zc])
          | (refine wpT_skip (ga (by rfl)) (by rfl) ?_; simp only [Act.put, za, zb, zc])
        first
          | (refine wpT_takeN hx (by simp) (v := ?_) (ga (by rfl)) (by rfl) (fun _ hc => ?_) ?_
             rotate_left
             focus (go_simp; (try go_ints); exact rfl)
             simp only [Act.put, za, zb, zc])
          | (refine wpT_skip (ga (by rfl)) (by rfl) ?_; simp only [Act.put, za, zb, zc])
        refine wpT_done ?_
        obtain ⟨z, hz⟩ : ∃ z, g.ns[m]? = some z := ⟨_, List.getElem?_eq_getElem hjn⟩
        have hql := hG.len
        obtain ⟨p, hp⟩ : ∃ p, qs[m]? = some p := ⟨_, List.getElem?_eq_getElem (by omega)⟩
        have hXd : Ext W W.drew := Ext.drew (Ext.refl _)
        replace hG := hG.ext hXd
        replace k8 := k8.ext hXd
        replace kO := kO.ext hXd
        replace hE := hE.trans hXd
        replace lO : o < W.drew.heap.size := lO
        clear c8 f8 l8 cO hx hXd
        generalize W.drew = V at hG k8 kO hE lO ⊢
        have cO := kO.cell
        obtain ⟨h1, h2⟩ := hG.each m p z hp hz
        obtain ⟨p1, p2⟩ := p
        obtain ⟨R, cR, hR0⟩ := own_slice h1
        simp only at hR0
        subst hR0
        have hR5 : V.ownsRow base 3 1 (.slice R z.1.length cR) z.1.length (ints z.1) := h1
        have hzl := hv.nd m z hz
        have hq0 := (own_cells hG.nodes).1 (m * 2) _ (vals_at qs m _ hp).1
        simp only at hq0
        have hbA := hG.lt .A bA rfl
        have hAR : ∀ b, (Value.slice (some ⟨bA, 0, none⟩) g.ns.length a1).ownBlock = some b → b ∉ (Value.slice R z.1.length cR).ownBlock.toList := fun b hb hm => by
          have := hG.apart .A (.R m) b hb (by simp only [kv, hp, Option.bind_some]; simpa using hm)
          cases this
        obtain ⟨S, hS⟩ : ∃ S : List Nat, S = bA :: (Value.slice R z.1.length cR).ownBlock.toList := ⟨_, rfl⟩
        have hbS : bA ∈ S := by rw [hS]; simp
        have hRS : ∀ q ∈ (Value.slice R z.1.length cR).ownBlock.toList, q ∈ S := fun q hq => by rw [hS]; exact List.mem_cons_of_mem _ hq
        have hSV : ∀ q ∈ S, base ≤ q ∧ q < V.heap.size := fun q hq => by
          rw [hS, List.mem_cons] at hq
          rcases hq with rfl | hq
          · exact hbA
          · exact hG.lt (.R m) q (by simp only [kv, hp, Option.bind_some]; simpa using hq)
        have hoS : o ∉ S := fun hm => by
          rw [hS, List.mem_cons] at hm
          rcases hm with h | h
          · exact hG.off .A (by rw [h]; rfl)
          · exact hG.off (.R m) (by simp only [kv, hp, Option.bind_some]; simpa using h)
        have hnS : V.heap.size ∉ S := fun hm => by have := (hSV _ hm).2; omega
        have Hz := Lib.hid hz
        have Hp := Lib.hid hp
        clear h1 h2 hS hz hp
        go_upto_region 11 with fail
        refine wp_region_treeN (V.heap.size) S (.take 0 (.take 1 (.take 2 (.take 3 (.take 5 (.take 6 (.take 7 (.take 8 (.take 9 (.alt 4 (.alt 10 (.take 11 (.alt 12 (.alt 13 (.take 14 (.take 15 (.alt 16 .done .none))) .none) .none)) .none) (.alt 10 (.take 11 (.alt 4 (.alt 12 (.alt 13 (.take 14 (.take 15 (.alt 16 .done .none))) .none) .none) (.alt 12 (.alt 4 (.alt 13 (.take 14 (.take 15 (.alt 16 .done .none))) .none) .none) .none))) .none))))))))))) Try.mixed (by kernel_rfl) ?_
        intro hx
        first
          | (refine wpT_takeN hx (by simp) (v := ?_) (ga (by rfl)) (by rfl) (fun _ hc => ?_) ?_
             rotate_left
             focus (go_simp; (try go_ints); exact rfl)
             simp only [Act.put, za, zb, zc])
          | (refine wpT_skip (ga (by rfl)) (by rfl) ?_; simp only [Act.put, za, zb, zc])
        first
          | (refine wpT_takeN hx (by simp) (v := ?_) (ga (by rfl)) (by rfl) (fun _ hc => ?_) ?_
             rotate_left
             focus (go_simp; (try go_ints); exact rfl)
             simp only [Act.put, za, zb, zc])
          | (refine wpT_skip (ga (by rfl)) (by rfl) ?_; simp only [Act.put, za, zb, zc])
        first
          | (refine wpT_takeN hx (by simp) (v := ?_) (ga (by rfl)) (by rfl) (fun _ hc => ?_) ?_
             rotate_left
             focus (go_simp; (try go_ints); exact rfl)
             simp only [Act.put, za, zb, zc])
          | (refine wpT_skip (ga (by rfl)) (by rfl) ?_; simp only [Act.put, za, zb, zc])
        first
          | (refine wpT_takeN hx (by simp) (v := ?_) (ga (by rfl)) (by rfl) (fun _ hc => ?_) ?_
             rotate_left
             focus (go_simp; (try go_ints); exact rfl)
             simp only [Act.put, za, zb, zc])
          | (refine wpT_skip (ga (by rfl)) (by rfl) ?_; simp only [Act.put, za, zb, zc])
        first
          | (refine wpT_takeN hx (by simp) (v := ?_) (ga (by rfl)) (by rfl) (fun _ hc => ?_) ?_
             rotate_left
             focus (go_simp; (try go_ints); exact rfl)
             simp only [Act.put, za, zb, zc])
          | (refine wpT_skip (ga (by rfl)) (by rfl) ?_; simp only [Act.put, za, zb, zc])
        first
          | (refine wpT_takeN hx (by simp) (v := ?_) (ga (by rfl)) (by rfl) (fun _ hc => ?_) ?_
             rotate_left
             focus (go_simp; (try go_ints); exact rfl)
             simp only [Act.put, za, zb, zc])
          | (refine wpT_skip (ga (by rfl)) (by rfl) ?_; simp only [Act.put, za, zb, zc])
        first
          | (refine wpT_takeN hx (by simp) (v := ?_) (ga (by rfl)) (by rfl) (fun _ hc => ?_) ?_
             rotate_left
             focus (go_simp; (try go_ints); exact rfl)
             simp only [Act.put, za, zb, zc])
          | (refine wpT_skip (ga (by rfl)) (by rfl) ?_; simp only [Act.put, za, zb, zc])
        first
          | (refine wpT_takeN hx (by simp) (v := ?_) (ga (by rfl)) (by rfl) (fun _ hc => ?_) ?_
             rotate_left
             focus (go_simp; (try go_ints); exact rfl)
             simp only [Act.put, za, zb, zc])
          | (refine wpT_skip (ga (by rfl)) (by rfl) ?_; simp only [Act.put, za, zb, zc])
        first
          | (refine wpT_takeN hx (by simp) (v := ?_) (ga (by rfl)) (by rfl) (fun _ hc => ?_) ?_
             rotate_left
             focus (go_simp; (try go_ints); exact rfl)
             simp only [Act.put, za, zb, zc])
          | (refine wpT_skip (ga (by rfl)) (by rfl) ?_; simp only [Act.put, za, zb, zc])
        refine wpT_call (ga (by rfl)) (by rfl) (fun K hK => ?_) ?_
        · skip
          go_simp
          first | (refine hK _ _ ?_ ?_; (focus ((repeat (first | (with_reducible exact Bel.refl _ _ _) | assumption | (with_reducible exact Bel.alloc1 (by first | assumption | omega | (simp; omega))) | (with_reducible refine Bel.drew ?_) | (with_reducible refine Bel.drewL ?_) | (with_reducible refine Bel.setCell ?_ ?_ _; rotate_left; (focus (first | omega | (simp; done) | (simp; omega)))) | (with_reducible refine Bel.alloc ?_ _))); done))) | (refine hK undef _ ?_ ?_; (focus ((repeat (first | (with_reducible exact Bel.refl _ _ _) | assumption | (with_reducible exact Bel.alloc1 (by first | assumption | omega | (simp; omega))) | (with_reducible refine Bel.drew ?_) | (with_reducible refine Bel.drewL ?_) | (with_reducible refine Bel.setCell ?_ ?_ _; rotate_left; (focus (first | omega | (simp; done) | (simp; omega)))) | (with_reducible refine Bel.alloc ?_ _))); done)))
          clear hK
          intro hr
          replace hx := hx.trans hr
          clear hr
          try simp only [Act.put, za, zb, zc]
          refine wpT_call (ga (by rfl)) (by rfl) (fun K hK => ?_) ?_
          · skip
            go_simp
            go_at_call 11
            refine (mod_is x (g.ns.length + 3) y _ (by omega) (by omega) Hy.out).mono ?_
            rintro e w1 ⟨rfl, rfl⟩
            refine hK _ _ ((Ext.refl _).bel _) ?_
            clear hK
            intro hr
            replace hx := hx.trans hr
            clear hr
            try simp only [Act.put, za, zb, zc]
            first
              | (refine wpT_takeN hx (by simp) (v := ?_) (ga (by rfl)) (by rfl) (fun _ hc => ?_) ?_
                 rotate_left
                 focus (go_simp; (try go_ints); exact rfl)
                 simp only [Act.put, za, zb, zc])
              | (refine wpT_skip (ga (by rfl)) (by rfl) ?_; simp only [Act.put, za, zb, zc])
            refine wpT_call (ga (by rfl)) (by rfl) (fun K hK => ?_) ?_
            · skip
              
              go_simp
              first | (refine hK _ _ ?_ ?_; (focus ((repeat (first | (with_reducible exact Bel.refl _ _ _) | assumption | (with_reducible exact Bel.alloc1 (by first | assumption | omega | (simp; omega))) | (with_reducible refine Bel.drew ?_) | (with_reducible refine Bel.drewL ?_) | (with_reducible refine Bel.setCell ?_ ?_ _; rotate_left; (focus (first | omega | (simp; done) | (simp; omega)))) | (with_reducible refine Bel.alloc ?_ _))); done))) | (refine hK undef _ ?_ ?_; (focus ((repeat (first | (with_reducible exact Bel.refl _ _ _) | assumption | (with_reducible exact Bel.alloc1 (by first | assumption | omega | (simp; omega))) | (with_reducible refine Bel.drew ?_) | (with_reducible refine Bel.drewL ?_) | (with_reducible refine Bel.setCell ?_ ?_ _; rotate_left; (focus (first | omega | (simp; done) | (simp; omega)))) | (with_reducible refine Bel.alloc ?_ _))); done)))
              clear hK
              intro hr
              have hq1 : (V.alloc (.cells #[.int .i64 (y - 2)] 3)).cell? ⟨bA, m * 2, none⟩ = _ := cell_ext (Ext.alloc (Ext.refl V) _) hq0
              replace hx := hx.trans hr
              clear hr
              try simp only [Act.put, za, zb, zc]
              refine wpT_call (ga (by rfl)) (by rfl) (fun K hK => ?_) ?_
              · skip
                refine wp_append Try.el22 _ _ rfl base _ _ _ rfl (own_ext hR5 (by (repeat (first | (with_reducible exact xr _) | assumption | (with_reducible first | refine xa ?_ _ | refine xd ?_ | refine xl ?_) | refine xt ?_ (by assumption))))) _ 1 1 _ rfl (rd_new _ [_] 3 1 1 rfl) (by simp [Value.oneCell']) (by omega) (by omega) (by (first | omega | (simp; done) | (simp; omega))) ?_
                intro A2 c3 w3 hN3 hg3 hat3; have hN3' := own_but (own_ext hG.nodes (by (repeat (first | (with_reducible exact xr _) | assumption | (with_reducible first | refine xa ?_ _ | refine xd ?_ | refine xl ?_) | refine xt ?_ (by assumption))))) (but_grown hg3) hAR; have fq0 := (own_cells hN3').2; have hq3 := (own_cells hN3').1 (m * 2) _ (vals_at qs m _ Hp.out).1
                refine hK _ _ (((But.more (but_grown hg3) hRS).bel _)) ?_
                clear hK
                intro hr
                replace hx := hx.trans hr
                clear hr
                try simp only [Act.put, za, zb, zc]
                first
                  | (refine wpT_takeN hx (by simp) (v := ?_) (ga (by rfl)) (by rfl) (fun _ hc => ?_) ?_
                     rotate_left
                     focus (go_simp; (try go_ints); exact rfl)
                     simp only [Act.put, za, zb, zc])
                  | (refine wpT_skip (ga (by rfl)) (by rfl) ?_; simp only [Act.put, za, zb, zc])
                first
                  | (refine wpT_takeN hx (by simp) (v := ?_) (ga (by rfl)) (by rfl) (fun _ hc => ?_) ?_
                     rotate_left
                     focus (go_simp; (try go_ints); exact rfl)
                     simp only [Act.put, za, zb, zc])
                  | (refine wpT_skip (ga (by rfl)) (by rfl) ?_; simp only [Act.put, za, zb, zc])
                refine wpT_store (ga (by rfl)) rfl (by rfl) (fun K hK => ?_) ?_
                · skip
                  
                  go_simp
                  refine hK _ ?_ ?_
                  focus (exact (Bel.setIn (p := ⟨bA, m * 2, none⟩) (Bel.refl _ _ _) hbS _); done)
                  clear hK
                  intro hr
                  replace hx := hx.trans hr
                  clear hr
                  try simp only [Act.put, za, zb, zc]
                  refine wpT_done ?_
                  have hB2 := (bel_drew hx).but
                  have hF := fun w4 h4 => fin_refs (w4 := w4) (b8 := b8) hG Hp.out Hz.out (Ext.drew (Ext.alloc (Ext.refl V) (.cells #[.int .i64 (y - 2)] 3))) hg3 hN3 hat3 h4 hbb (by omega) hTb
                  have k82 := k8.but hB2 (fun hm => by have := (hSV _ hm).1; omega)
                  have kO2 := kO.but hB2 hoS
                  have hE2 := But.ext hE hB2 (fun q hq => by have := (hSV _ hq).1; omega)
                  generalize w3.setCell ⟨bA, m * 2, none⟩ (.slice A2 (z.1.length + 1) c3) = W2 at hF k82 kO2 hE2 ⊢
                  have cO2 := kO2.cell
                  have lO2 := kO2.lt
                  have c82 := k82.cell
                  have f82 := k82.froz
                  have l82 := k82.lt
                  clear hx hB2 hN3 hg3 hat3 hN3' fq0 hq3 hq1 cO hq0 hSV hAR hRS hG
                  go_wp2
                  have k8f := (((k82).set_ 0 (.slice (some ⟨bA, 0, none⟩) g.ns.length a1)).set_ 1 (.slice (B1) g.us.length b1)).set_ 2 (.slice (C1) g.rs.length c1)
                  have cF := k8f.cell
                  exact bodyPost_ret (v := .agg #[.slice (some ⟨bA, 0, none⟩) g.ns.length a1, .slice (B1) g.us.length b1, .slice (C1) g.rs.length c1]) (by simp [results, Try.results24, go_sem, cF]) rfl ⟨_, _, rfl, hF _ (but3 _ _ _), ⟨by simp; omega, by show g.us.length ≤ 1000; omega, by show g.rs.length ≤ 1000; omega⟩, ext3 (hE2) hb8 _ _ _⟩
                exact wpT_none
              exact wpT_none
            exact wpT_none
          exact wpT_none
        refine wpT_call (ga (by rfl)) (by rfl) (fun K hK => ?_) ?_
        · skip
          go_simp
          go_at_call 11
          refine (mod_is x (g.ns.length + 3) y _ (by omega) (by omega) Hy.out).mono ?_
          rintro e w1 ⟨rfl, rfl⟩
          refine hK _ _ ((Ext.refl _).bel _) ?_
          clear hK
          intro hr
          replace hx := hx.trans hr
          clear hr
          try simp only [Act.put, za, zb, zc]
          first
            | (refine wpT_takeN hx (by simp) (v := ?_) (ga (by rfl)) (by rfl) (fun _ hc => ?_) ?_
               rotate_left
               focus (go_simp; (try go_ints); exact rfl)
               simp only [Act.put, za, zb, zc])
            | (refine wpT_skip (ga (by rfl)) (by rfl) ?_; simp only [Act.put, za, zb, zc])
          refine wpT_call (ga (by rfl)) (by rfl) (fun K hK => ?_) ?_
          · skip
            go_simp
            first | (refine hK _ _ ?_ ?_; (focus ((repeat (first | (with_reducible exact Bel.refl _ _ _) | assumption | (with_reducible exact Bel.alloc1 (by first | assumption | omega | (simp; omega))) | (with_reducible refine Bel.drew ?_) | (with_reducible refine Bel.drewL ?_) | (with_reducible refine Bel.setCell ?_ ?_ _; rotate_left; (focus (first | omega | (simp; done) | (simp; omega)))) | (with_reducible refine Bel.alloc ?_ _))); done))) | (refine hK undef _ ?_ ?_; (focus ((repeat (first | (with_reducible exact Bel.refl _ _ _) | assumption | (with_reducible exact Bel.alloc1 (by first | assumption | omega | (simp; omega))) | (with_reducible refine Bel.drew ?_) | (with_reducible refine Bel.drewL ?_) | (with_reducible refine Bel.setCell ?_ ?_ _; rotate_left; (focus (first | omega | (simp; done) | (simp; omega)))) | (with_reducible refine Bel.alloc ?_ _))); done)))
            clear hK
            intro hr
            replace hx := hx.trans hr
            clear hr
            try simp only [Act.put, za, zb, zc]
            refine wpT_call (ga (by rfl)) (by rfl) (fun K hK => ?_) ?_
            · skip
              
              go_simp
              first | (refine hK _ _ ?_ ?_; (focus ((repeat (first | (with_reducible exact Bel.refl _ _ _) | assumption | (with_reducible exact Bel.alloc1 (by first | assumption | omega | (simp; omega))) | (with_reducible refine Bel.drew ?_) | (with_reducible refine Bel.drewL ?_) | (with_reducible refine Bel.setCell ?_ ?_ _; rotate_left; (focus (first | omega | (simp; done) | (simp; omega)))) | (with_reducible refine Bel.alloc ?_ _))); done))) | (refine hK undef _ ?_ ?_; (focus ((repeat (first | (with_reducible exact Bel.refl _ _ _) | assumption | (with_reducible exact Bel.alloc1 (by first | assumption | omega | (simp; omega))) | (with_reducible refine Bel.drew ?_) | (with_reducible refine Bel.drewL ?_) | (with_reducible refine Bel.setCell ?_ ?_ _; rotate_left; (focus (first | omega | (simp; done) | (simp; omega)))) | (with_reducible refine Bel.alloc ?_ _))); done)))
              clear hK
              intro hr
              have hq1 : (V.alloc (.cells #[.int .i64 (y - 2)] 3)).cell? ⟨bA, m * 2, none⟩ = _ := cell_ext (Ext.alloc (Ext.refl V) _) hq0
              replace hx := hx.trans hr
              clear hr
              try simp only [Act.put, za, zb, zc]
              refine wpT_call (ga (by rfl)) (by rfl) (fun K hK => ?_) ?_
              · skip
                refine wp_append Try.el22 _ _ rfl base _ _ _ rfl (own_ext hR5 (by (repeat (first | (with_reducible exact xr _) | assumption | (with_reducible first | refine xa ?_ _ | refine xd ?_ | refine xl ?_) | refine xt ?_ (by assumption))))) _ 1 1 _ rfl (rd_new _ [_] 3 1 1 rfl) (by simp [Value.oneCell']) (by omega) (by omega) (by (first | omega | (simp; done) | (simp; omega))) ?_
                intro A2 c3 w3 hN3 hg3 hat3; have hN3' := own_but (own_ext hG.nodes (by (repeat (first | (with_reducible exact xr _) | assumption | (with_reducible first | refine xa ?_ _ | refine xd ?_ | refine xl ?_) | refine xt ?_ (by assumption))))) (but_grown hg3) hAR; have fq0 := (own_cells hN3').2; have hq3 := (own_cells hN3').1 (m * 2) _ (vals_at qs m _ Hp.out).1
                refine hK _ _ (((But.more (but_grown hg3) hRS).bel _)) ?_
                clear hK
                intro hr
                replace hx := hx.trans hr
                clear hr
                try simp only [Act.put, za, zb, zc]
                first
                  | (refine wpT_takeN hx (by simp) (v := ?_) (ga (by rfl)) (by rfl) (fun _ hc => ?_) ?_
                     rotate_left
                     focus (go_simp; (try go_ints); exact rfl)
                     simp only [Act.put, za, zb, zc])
                  | (refine wpT_skip (ga (by rfl)) (by rfl) ?_; simp only [Act.put, za, zb, zc])
                first
                  | (refine wpT_takeN hx (by simp) (v := ?_) (ga (by rfl)) (by rfl) (fun _ hc => ?_) ?_
                     rotate_left
                     focus (go_simp; (try go_ints); exact rfl)
                     simp only [Act.put, za, zb, zc])
                  | (refine wpT_skip (ga (by rfl)) (by rfl) ?_; simp only [Act.put, za, zb, zc])
                refine wpT_store (ga (by rfl)) rfl (by rfl) (fun K hK => ?_) ?_
                · skip
                  
                  go_simp
                  refine hK _ ?_ ?_
                  focus (exact (Bel.setIn (p := ⟨bA, m * 2, none⟩) (Bel.refl _ _ _) hbS _); done)
                  clear hK
                  intro hr
                  replace hx := hx.trans hr
                  clear hr
                  try simp only [Act.put, za, zb, zc]
                  refine wpT_done ?_
                  have hB2 := (bel_drew hx).but
                  have hF := fun w4 h4 => fin_refs (w4 := w4) (b8 := b8) hG Hp.out Hz.out (Ext.drew (Ext.alloc (Ext.refl V) (.cells #[.int .i64 (y - 2)] 3))) hg3 hN3 hat3 h4 hbb (by omega) hTb
                  have k82 := k8.but hB2 (fun hm => by have := (hSV _ hm).1; omega)
                  have kO2 := kO.but hB2 hoS
                  have hE2 := But.ext hE hB2 (fun q hq => by have := (hSV _ hq).1; omega)
                  generalize w3.setCell ⟨bA, m * 2, none⟩ (.slice A2 (z.1.length + 1) c3) = W2 at hF k82 kO2 hE2 ⊢
                  have cO2 := kO2.cell
                  have lO2 := kO2.lt
                  have c82 := k82.cell
                  have f82 := k82.froz
                  have l82 := k82.lt
                  clear hx hB2 hN3 hg3 hat3 hN3' fq0 hq3 hq1 cO hq0 hSV hAR hRS hG
                  go_wp2
                  have k8f := (((k82).set_ 0 (.slice (some ⟨bA, 0, none⟩) g.ns.length a1)).set_ 1 (.slice (B1) g.us.length b1)).set_ 2 (.slice (C1) g.rs.length c1)
                  have cF := k8f.cell
                  exact bodyPost_ret (v := .agg #[.slice (some ⟨bA, 0, none⟩) g.ns.length a1, .slice (B1) g.us.length b1, .slice (C1) g.rs.length c1]) (by simp [results, Try.results24, go_sem, cF]) rfl ⟨_, _, rfl, hF _ (but3 _ _ _), ⟨by simp; omega, by show g.us.length ≤ 1000; omega, by show g.rs.length ≤ 1000; omega⟩, ext3 (hE2) hb8 _ _ _⟩
                exact wpT_none
              exact wpT_none
            exact wpT_none
          refine wpT_call (ga (by rfl)) (by rfl) (fun K hK => ?_) ?_
          · skip
            
            go_simp
            first | (refine hK _ _ ?_ ?_; (focus ((repeat (first | (with_reducible exact Bel.refl _ _ _) | assumption | (with_reducible exact Bel.alloc1 (by first | assumption | omega | (simp; omega))) | (with_reducible refine Bel.drew ?_) | (with_reducible refine Bel.drewL ?_) | (with_reducible refine Bel.setCell ?_ ?_ _; rotate_left; (focus (first | omega | (simp; done) | (simp; omega)))) | (with_reducible refine Bel.alloc ?_ _))); done))) | (refine hK undef _ ?_ ?_; (focus ((repeat (first | (with_reducible exact Bel.refl _ _ _) | assumption | (with_reducible exact Bel.alloc1 (by first | assumption | omega | (simp; omega))) | (with_reducible refine Bel.drew ?_) | (with_reducible refine Bel.drewL ?_) | (with_reducible refine Bel.setCell ?_ ?_ _; rotate_left; (focus (first | omega | (simp; done) | (simp; omega)))) | (with_reducible refine Bel.alloc ?_ _))); done)))
            clear hK
            intro hr
            have hq1 : (V.alloc (.cells #[.int .i64 (y - 2)] 3)).cell? ⟨bA, m * 2, none⟩ = _ := cell_ext (Ext.alloc (Ext.refl V) _) hq0
            replace hx := hx.trans hr
            clear hr
            try simp only [Act.put, za, zb, zc]
            refine wpT_call (ga (by rfl)) (by rfl) (fun K hK => ?_) ?_
            · skip
              go_simp
              first | (refine hK _ _ ?_ ?_; (focus ((repeat (first | (with_reducible exact Bel.refl _ _ _) | assumption | (with_reducible exact Bel.alloc1 (by first | assumption | omega | (simp; omega))) | (with_reducible refine Bel.drew ?_) | (with_reducible refine Bel.drewL ?_) | (with_reducible refine Bel.setCell ?_ ?_ _; rotate_left; (focus (first | omega | (simp; done) | (simp; omega)))) | (with_reducible refine Bel.alloc ?_ _))); done))) | (refine hK undef _ ?_ ?_; (focus ((repeat (first | (with_reducible exact Bel.refl _ _ _) | assumption | (with_reducible exact Bel.alloc1 (by first | assumption | omega | (simp; omega))) | (with_reducible refine Bel.drew ?_) | (with_reducible refine Bel.drewL ?_) | (with_reducible refine Bel.setCell ?_ ?_ _; rotate_left; (focus (first | omega | (simp; done) | (simp; omega)))) | (with_reducible refine Bel.alloc ?_ _))); done)))
              clear hK
              intro hr
              replace hx := hx.trans hr
              clear hr
              try simp only [Act.put, za, zb, zc]
              refine wpT_call (ga (by rfl)) (by rfl) (fun K hK => ?_) ?_
              · skip
                refine wp_append Try.el22 _ _ rfl base _ _ _ rfl (own_ext hR5 (by (repeat (first | (with_reducible exact xr _) | assumption | (with_reducible first | refine xa ?_ _ | refine xd ?_ | refine xl ?_) | refine xt ?_ (by assumption))))) _ 1 1 _ rfl (rd_new _ [_] 3 1 1 rfl) (by simp [Value.oneCell']) (by omega) (by omega) (by (first | omega | (simp; done) | (simp; omega))) ?_
                intro A2 c3 w3 hN3 hg3 hat3; have hN3' := own_but (own_ext hG.nodes (by (repeat (first | (with_reducible exact xr _) | assumption | (with_reducible first | refine xa ?_ _ | refine xd ?_ | refine xl ?_) | refine xt ?_ (by assumption))))) (but_grown hg3) hAR; have fq0 := (own_cells hN3').2; have hq3 := (own_cells hN3').1 (m * 2) _ (vals_at qs m _ Hp.out).1
                refine hK _ _ (((But.more (but_grown hg3) hRS).bel _)) ?_
                clear hK
                intro hr
                replace hx := hx.trans hr
                clear hr
                try simp only [Act.put, za, zb, zc]
                first
                  | (refine wpT_takeN hx (by simp) (v := ?_) (ga (by rfl)) (by rfl) (fun _ hc => ?_) ?_
                     rotate_left
                     focus (go_simp; (try go_ints); exact rfl)
                     simp only [Act.put, za, zb, zc])
                  | (refine wpT_skip (ga (by rfl)) (by rfl) ?_; simp only [Act.put, za, zb, zc])
                first
                  | (refine wpT_takeN hx (by simp) (v := ?_) (ga (by rfl)) (by rfl) (fun _ hc => ?_) ?_
                     rotate_left
                     focus (go_simp; (try go_ints); exact rfl)
                     simp only [Act.put, za, zb, zc])
                  | (refine wpT_skip (ga (by rfl)) (by rfl) ?_; simp only [Act.put, za, zb, zc])
                refine wpT_store (ga (by rfl)) rfl (by rfl) (fun K hK => ?_) ?_
                · skip
                  
                  go_simp
                  refine hK _ ?_ ?_
                  focus (exact (Bel.setIn (p := ⟨bA, m * 2, none⟩) (Bel.refl _ _ _) hbS _); done)
                  clear hK
                  intro hr
                  replace hx := hx.trans hr
                  clear hr
                  try simp only [Act.put, za, zb, zc]
                  refine wpT_done ?_
                  have hB2 := (bel_drew hx).but
                  have hF := fun w4 h4 => fin_refs (w4 := w4) (b8 := b8) hG Hp.out Hz.out (Ext.drew (Ext.alloc (Ext.refl V) (.cells #[.int .i64 (y - 2)] 3))) hg3 hN3 hat3 h4 hbb (by omega) hTb
                  have k82 := k8.but hB2 (fun hm => by have := (hSV _ hm).1; omega)
                  have kO2 := kO.but hB2 hoS
                  have hE2 := But.ext hE hB2 (fun q hq => by have := (hSV _ hq).1; omega)
                  generalize w3.setCell ⟨bA, m * 2, none⟩ (.slice A2 (z.1.length + 1) c3) = W2 at hF k82 kO2 hE2 ⊢
                  have cO2 := kO2.cell
                  have lO2 := kO2.lt
                  have c82 := k82.cell
                  have f82 := k82.froz
                  have l82 := k82.lt
                  clear hx hB2 hN3 hg3 hat3 hN3' fq0 hq3 hq1 cO hq0 hSV hAR hRS hG
                  go_wp2
                  have k8f := (((k82).set_ 0 (.slice (some ⟨bA, 0, none⟩) g.ns.length a1)).set_ 1 (.slice (B1) g.us.length b1)).set_ 2 (.slice (C1) g.rs.length c1)
                  have cF := k8f.cell
                  exact bodyPost_ret (v := .agg #[.slice (some ⟨bA, 0, none⟩) g.ns.length a1, .slice (B1) g.us.length b1, .slice (C1) g.rs.length c1]) (by simp [results, Try.results24, go_sem, cF]) rfl ⟨_, _, rfl, hF _ (but3 _ _ _), ⟨by simp; omega, by show g.us.length ≤ 1000; omega, by show g.rs.length ≤ 1000; omega⟩, ext3 (hE2) hb8 _ _ _⟩
                exact wpT_none
              exact wpT_none
            exact wpT_none
          exact wpT_none
        exact wpT_none
      exact wpT_none
    · have hd0 : decide ((0 : Int) < g.ns.length) = false := decide_eq_false (by omega)
      have hd0' : decide (0 < g.ns.length) = false := decide_eq_false hn0
      go_wp2
      have k8f := (((k8).set_ 0 (.slice (A1) g.ns.length a1)).set_ 1 (.slice (B1) g.us.length b1)).set_ 2 (.slice (C1) g.rs.length c1)
      have cF := k8f.cell
      exact bodyPost_ret (v := .agg #[.slice (A1) g.ns.length a1, .slice (B1) g.us.length b1, .slice (C1) g.rs.length c1]) (by simp [results, Try.results24, go_sem, cF]) rfl ⟨_, _, rfl, (hG.past (but3 _ _ _) hbb).rdx hTb, ⟨by omega, by omega, by omega⟩, ext3 (hE) hb8 _ _ _⟩
  · by_cases hn0 : 0 < g.ns.length
    · obtain ⟨m, hj, hjn⟩ := mod_nat i g.ns.length hn0
      obtain ⟨r, hr3, hr3'⟩ := mod_nat x 3 (by omega)
      obtain ⟨t, ht⟩ : ∃ t : Nat, (31 : Int) + (r : Int) = (t : Int) := ⟨31 + r, by omega⟩
      obtain ⟨bA, cA, hA⟩ := own_at hG.nodes hn0
      injection hA with hA1 hA2 hA3
      subst hA1 hA3
      have Hj := Lib.hid hj
      have Hr := Lib.hid hr3
      have hd0 : decide ((0 : Int) < g.ns.length) = true := by simp; omega
      have hd0' : decide (0 < g.ns.length) = true := by simp; omega
      have hjI : (m : Int) < g.ns.length := by omega
      obtain ⟨cD, hcD⟩ : ∃ cD, cD = (List.replicate t (Value.int .u64 0)).toArray := ⟨_, rfl⟩
      have mD : ∀ W : World, (Instr.makeSlice 47 (.int .i64 t) (.int .i64 t)).run Try.prog W = .ok (.slice (some ⟨W.heap.size, 0, none⟩) t t) (W.alloc (.cells cD 31)) := fun W => by rw [hcD]; exact run_mk Try.el47 rfl t (by omega) (by omega) W
      have zD : cD.size = t := by rw [hcD]; simp
      have HD := Lib.hid hcD
      obtain ⟨z, hz⟩ : ∃ z, g.ns[m]? = some z := ⟨_, List.getElem?_eq_getElem hjn⟩
      have hql := hG.len
      obtain ⟨p, hp⟩ : ∃ p, qs[m]? = some p := ⟨_, List.getElem?_eq_getElem (by omega)⟩
      have Hz := Lib.hid hz
      have Hp := Lib.hid hp
      have hbA := hG.lt .A bA rfl
      have hoA : o ∉ [bA] := fun hm => hG.off .A (by rw [List.mem_singleton.1 hm]; rfl)
      clear hj hr3 hcD hz hp
      go_upto_region 14 with fail
      refine wp_region_treeN (W.heap.size) [bA] (.take 0 (.take 1 (.take 2 (.take 3 (.take 4 (.take 5 (.take 7 (.alt 6 (.alt 8 (.take 9 (.alt 10 (.take 11 (.take 12 (.alt 13 .done .none))) .none)) .none) .none)))))))) Try.mixed (by kernel_rfl) ?_
      intro hx
      first
        | (refine wpT_takeN hx (by simp) (v := ?_) (ga (by rfl)) (by rfl) (fun _ hc => ?_) ?_
           rotate_left
           focus (go_simp; (try go_ints); exact rfl)
           simp only [Act.put, za, zb, zc])
        | (refine wpT_skip (ga (by rfl)) (by rfl) ?_; simp only [Act.put, za, zb, zc])
      first
        | (refine wpT_takeN hx (by simp) (v := ?_) (ga (by rfl)) (by rfl) (fun _ hc => ?_) ?_
           rotate_left
           focus (go_simp; (try go_ints); exact rfl)
           simp only [Act.put, za, zb, zc])
        | (refine wpT_skip (ga (by rfl)) (by rfl) ?_; simp only [Act.put, za, zb, zc])
      first
        | (refine wpT_takeN hx (by simp) (v := ?_) (ga (by rfl)) (by rfl) (fun _ hc => ?_) ?_
           rotate_left
           focus (go_simp; (try go_ints); exact rfl)
           simp only [Act.put, za, zb, zc])
        | (refine wpT_skip (ga (by rfl)) (by rfl) ?_; simp only [Act.put, za, zb, zc])
      first
        | (refine wpT_takeN hx (by simp) (v := ?_) (ga (by rfl)) (by rfl) (fun _ hc => ?_) ?_
           rotate_left
           focus (go_simp; (try go_ints); exact rfl)
           simp only [Act.put, za, zb, zc])
        | (refine wpT_skip (ga (by rfl)) (by rfl) ?_; simp only [Act.put, za, zb, zc])
      first
        | (refine wpT_takeN hx (by simp) (v := ?_) (ga (by rfl)) (by rfl) (fun _ hc => ?_) ?_
           rotate_left
           focus (go_simp; (try go_ints); exact rfl)
           simp only [Act.put, za, zb, zc])
        | (refine wpT_skip (ga (by rfl)) (by rfl) ?_; simp only [Act.put, za, zb, zc])
      first
        | (refine wpT_takeN hx (by simp) (v := ?_) (ga (by rfl)) (by rfl) (fun _ hc => ?_) ?_
           rotate_left
           focus (go_simp; (try go_ints); exact rfl)
           simp only [Act.put, za, zb, zc])
        | (refine wpT_skip (ga (by rfl)) (by rfl) ?_; simp only [Act.put, za, zb, zc])
      first
        | (refine wpT_takeN hx (by simp) (v := ?_) (ga (by rfl)) (by rfl) (fun _ hc => ?_) ?_
           rotate_left
           focus (go_simp; (try go_ints); exact rfl)
           simp only [Act.put, za, zb, zc])
        | (refine wpT_skip (ga (by rfl)) (by rfl) ?_; simp only [Act.put, za, zb, zc])
      refine wpT_call (ga (by rfl)) (by rfl) (fun K hK => ?_) ?_
      · skip
        go_simp
        go_at_call 11
        refine (mod_is i g.ns.length m _ (by omega) (by omega) Hj.out).mono ?_
        rintro e w1 ⟨rfl, rfl⟩
        refine hK _ _ ((Ext.refl _).bel _) ?_
        clear hK
        intro hr
        replace hx := hx.trans hr
        clear hr
        try simp only [Act.put, za, zb, zc]
        refine wpT_call (ga (by rfl)) (by rfl) (fun K hK => ?_) ?_
        · skip
          go_simp
          go_at_call 11
          refine (mod_is x 3 r _ (by omega) (by omega) Hr.out).mono ?_
          rintro e w1 ⟨rfl, rfl⟩
          refine hK _ _ ((Ext.refl _).bel _) ?_
          clear hK
          intro hr
          replace hx := hx.trans hr
          clear hr
          try simp only [Act.put, za, zb, zc]
          first
            | (refine wpT_takeN hx (by simp) (v := ?_) (ga (by rfl)) (by rfl) (fun _ hc => ?_) ?_
               rotate_left
               focus (go_simp; (try go_ints); exact rfl)
               simp only [Act.put, za, zb, zc])
            | (refine wpT_skip (ga (by rfl)) (by rfl) ?_; simp only [Act.put, za, zb, zc])
          refine wpT_call (ga (by rfl)) (by rfl) (fun K hK => ?_) ?_
          · skip
            
            go_simp
            first | (refine hK _ _ ?_ ?_; (focus ((repeat (first | (with_reducible exact Bel.refl _ _ _) | assumption | (with_reducible exact Bel.alloc1 (by first | assumption | omega | (simp; omega))) | (with_reducible refine Bel.drew ?_) | (with_reducible refine Bel.drewL ?_) | (with_reducible refine Bel.setCell ?_ ?_ _; rotate_left; (focus (first | omega | (simp; done) | (simp; omega)))) | (with_reducible refine Bel.alloc ?_ _))); done))) | (refine hK undef _ ?_ ?_; (focus ((repeat (first | (with_reducible exact Bel.refl _ _ _) | assumption | (with_reducible exact Bel.alloc1 (by first | assumption | omega | (simp; omega))) | (with_reducible refine Bel.drew ?_) | (with_reducible refine Bel.drewL ?_) | (with_reducible refine Bel.setCell ?_ ?_ _; rotate_left; (focus (first | omega | (simp; done) | (simp; omega)))) | (with_reducible refine Bel.alloc ?_ _))); done)))
            clear hK
            intro hr
            (first | have hD := own_bel2 (n := t) hr (by omega) zD | have hD := own_bel (n := t) hr (by omega) zD); have hN3' := own_ext hG.nodes (Ext.alloc (Ext.refl W) (.cells cD 31)); have fq0 := (own_cells hN3').2; have hq3 := (own_cells hN3').1 (m * 2 + 1) _ (vals_at qs m _ Hp.out).2
            replace hx := hx.trans hr
            clear hr
            try simp only [Act.put, za, zb, zc]
            first
              | (refine wpT_takeN hx (by simp) (v := ?_) (ga (by rfl)) (by rfl) (fun _ hc => ?_) ?_
                 rotate_left
                 focus (go_simp; (try go_ints); exact rfl)
                 simp only [Act.put, za, zb, zc])
              | (refine wpT_skip (ga (by rfl)) (by rfl) ?_; simp only [Act.put, za, zb, zc])
            first
              | (refine wpT_takeN hx (by simp) (v := ?_) (ga (by rfl)) (by rfl) (fun _ hc => ?_) ?_
                 rotate_left
                 focus (go_simp; (try go_ints); exact rfl)
                 simp only [Act.put, za, zb, zc])
              | (refine wpT_skip (ga (by rfl)) (by rfl) ?_; simp only [Act.put, za, zb, zc])
            refine wpT_store (ga (by rfl)) rfl (by rfl) (fun K hK => ?_) ?_
            · skip
              
              go_simp
              refine hK _ ?_ ?_
              focus (exact (by refine Bel.drew ?_; refine Bel.drewL ?_; refine Bel.both ?_ (Nat.le_refl _); exact Bel.setIn (p := ⟨bA, m * 2 + 1, none⟩) (Bel.refl _ _ _) (show bA ∈ [bA] by simp) _); done)
              clear hK
              intro hr
              replace hx := hx.trans hr
              clear hr
              try simp only [Act.put, za, zb, zc]
              refine wpT_done ?_
              have hB2 := (bel_drew hx).but
              have hc : ((W.setCell ⟨bA, m * 2 + 1, none⟩ (.slice (some ⟨W.heap.size, 0, none⟩) t t)).alloc (.cells cD 31)).drew = (W.alloc (.cells cD 31)).drew.setCell ⟨bA, m * 2 + 1, none⟩ (.slice (some ⟨W.heap.size, 0, none⟩) t t) := by
                have := hbA.2
                go_simp
              have hD' : ((W.alloc (.cells cD 31)).drew).ownsRow W.heap.size 31 1 (.slice (some ⟨W.heap.size, 0, none⟩) t t) (List.replicate t (0 : Int)).length (words (List.replicate t 0)) := by
                have h0 : words (List.replicate t 0) = cD.toList := by rw [HD.out]; simp [words]
                rw [h0, List.length_replicate]
                exact hD
              have hF := fun w4 h4 => fin_data (w4 := w4) (b8 := b8) (d := List.replicate t 0) hG Hp.out Hz.out (Ext.drew (Ext.alloc (Ext.refl W) (.cells cD 31))) hD' h4 hbb (by omega) hTb
              have k82 := k8.but hB2 (fun hm => by have := List.mem_singleton.1 hm; omega)
              have kO2 := kO.but hB2 hoA
              have hE2 := But.ext hE hB2 (fun q hq => by have := List.mem_singleton.1 hq; omega)
              rw [hc] at k82 kO2 hE2 ⊢
              generalize (W.alloc (.cells cD 31)).drew.setCell ⟨bA, m * 2 + 1, none⟩ (.slice (some ⟨W.heap.size, 0, none⟩) t t) = W2 at hF k82 kO2 hE2 ⊢
              have cO2 := kO2.cell
              have lO2 := kO2.lt
              have c82 := k82.cell
              have f82 := k82.froz
              have l82 := k82.lt
              clear hx hc hB2 hD' hD hN3' fq0 hq3 cO c8 f8 l8 hG k8 kO hE lO mD
              go_wp2
              have k8f := (((k82).set_ 0 (.slice (some ⟨bA, 0, none⟩) g.ns.length a1)).set_ 1 (.slice (B1) g.us.length b1)).set_ 2 (.slice (C1) g.rs.length c1)
              have cF := k8f.cell
              exact bodyPost_ret (v := .agg #[.slice (some ⟨bA, 0, none⟩) g.ns.length a1, .slice (B1) g.us.length b1, .slice (C1) g.rs.length c1]) (by simp [results, Try.results24, go_sem, cF]) rfl ⟨_, _, rfl, hF _ (but3 _ _ _), ⟨by simp; omega, by show g.us.length ≤ 1000; omega, by show g.rs.length ≤ 1000; omega⟩, ext3 (hE2) hb8 _ _ _⟩
            exact wpT_none
          exact wpT_none
        exact wpT_none
      exact wpT_none
    · have hd0 : decide ((0 : Int) < g.ns.length) = false := decide_eq_false (by omega)
      have hd0' : decide (0 < g.ns.length) = false := decide_eq_false hn0
      go_wp2
      have k8f := (((k8).set_ 0 (.slice (A1) g.ns.length a1)).set_ 1 (.slice (B1) g.us.length b1)).set_ 2 (.slice (C1) g.rs.length c1)
      have cF := k8f.cell
      exact bodyPost_ret (v := .agg #[.slice (A1) g.ns.length a1, .slice (B1) g.us.length b1, .slice (C1) g.rs.length c1]) (by simp [results, Try.results24, go_sem, cF]) rfl ⟨_, _, rfl, (hG.past (but3 _ _ _) hbb).rdx hTb, ⟨by omega, by omega, by omega⟩, ext3 (hE) hb8 _ _ _⟩
  · go_wp2
    have k8f := (((k8).set_ 0 (.slice (A1) g.ns.length a1)).set_ 1 (.slice (B1) g.us.length b1)).set_ 2 (.slice (C1) g.rs.length c1)
    have cF := k8f.cell
    exact bodyPost_ret (v := .agg #[.slice (A1) g.ns.length a1, .slice (B1) g.us.length b1, .slice (C1) g.rs.length c1]) (by simp [results, Try.results24, go_sem, cF]) rfl ⟨_, _, rfl, (hG.past (but3 _ _ _) hbb).rdx hTb, ⟨by omega, by omega, by omega⟩, ext3 (hE) hb8 _ _ _⟩
end Go.Proofs.Ytamghjilcfeheaa
