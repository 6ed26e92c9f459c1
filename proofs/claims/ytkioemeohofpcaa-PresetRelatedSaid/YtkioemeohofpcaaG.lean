/- The walk of the law PresetRelated. Conditions: the ranges that each theorem states. -/
import Derived.Test.YtkioemeohofpcaaF
import Derived.Test.YtkioemeohofpcaaTree
namespace Go.Proofs.Ytkioemeohofpcaa
open Go.RowKit Go.Draw

theorem pct_eq_all : (List.range 101).all (fun k => Ieee.double.order (pctX (k : Int)) (pctX (k : Int)) == some .eq) = true := by decide +kernel
theorem pct_eq {i : Nat} (h : i ≤ 100) : FloatKind.f64.format.order (pctX (i : Int)) (pctX (i : Int)) = some .eq := by
  have h1 := pct_eq_all
  simp only [List.all_eq_true, List.mem_range, beq_iff_eq] at h1
  exact h1 i (by omega)
theorem zero_eq : FloatKind.f64.format.order 0 0 = some .eq := by decide +kernel
theorem good_e {p : Int} (h0 : 1 ≤ p) (h1 : p ≤ 100) : pctE p = 0 ∧ p ≠ 0 := ⟨by unfold pctE; rw [if_pos (by omega)], by omega⟩
theorem get_semi {p : Int} (h0 : 1 ≤ p) (h1 : p ≤ 100) : getT sSemi p = (sSemi, [(0, 0, 0, 0)], 1, 0) := by
  unfold getT presT
  rw [if_pos rfl]
  simp only
  rw [if_pos (good_e h0 h1)]
theorem get_appel {p : Int} (h0 : 1 ≤ p) (h1 : p ≤ 100) : getT sAppel p = (sAppel, [(0, 0, 0, 1), (0, 0, 0, 1)], 8, 0) := by
  unfold getT presT
  rw [if_neg (by decide), if_pos rfl]
  simp only
  rw [if_pos (good_e h0 h1)]
theorem get_fixed {p : Int} (h0 : 1 ≤ p) (h1 : p ≤ 100) : getT sFixed p = (sFixed, [(pctX p, 1, 0, 1), (0, 0, 0, 1)], 8, 0) := by
  unfold getT presT
  rw [if_neg (by decide), if_neg (by decide), if_pos rfl]
  simp only
  rw [if_pos (good_e h0 h1)]
theorem get_xx_ {p : Int} (h0 : 1 ≤ p) (h1 : p ≤ 100) : getT sXx p = (sXx, [(pctX p, 0, 1, 1), (pctX p, 0, 1, 1)], 0, 0) := by
  unfold getT presT
  rw [if_neg (by decide), if_neg (by decide), if_neg (by decide), if_neg (by decide), if_pos rfl]
  simp only
  rw [if_pos (good_e h0 h1)]
theorem get_xx100 {p : Int} (h0 : 1 ≤ p) (h1 : p ≤ 100) : getT sXx100 p = (sXx100, [(pctX p, 0, 1, 1), (pctX p, 0, 1, 2), (0, 0, 0, 2)], 8, 0) := by
  unfold getT presT
  rw [if_neg (by decide), if_neg (by decide), if_neg (by decide), if_neg (by decide), if_neg (by decide), if_pos rfl]
  simp only
  rw [if_pos (good_e h0 h1)]
theorem run_eq_float (d : Nat) (x y : Nat) (w : World) : (Op.equalIn (d + 1) 39 (.float .f64 x) (.float .f64 y)).run Try.prog w = .ok (FloatKind.f64.format.order x y == some .eq) w := by
  simp [Op.equalIn, run_underlying Try.underlying39, Op.floatEq]

theorem eq_rule (X : Nat) (y z t : Int) (w : World) (h : FloatKind.f64.format.order X X = some .eq) : (binOp .eql 41 (.agg #[.float .f64 X, .int .i64 y, .int .i64 z, .int .i64 t]) (.agg #[.float .f64 X, .int .i64 y, .int .i64 z, .int .i64 t])).run Try.prog w = .ok (.bool true) w := by
  have hf := run_eq_float
  go_simp
theorem rd0 {w : World} {g n size j : Nat} {xs : List Value} {u : Value} (h : Rd w (some ⟨g, 0, none⟩) n size xs) (hn : 0 < n) (hj : xs[j]? = some u) : w.cell? ⟨g, j, none⟩ = some u := by
  obtain ⟨b, o, he, hc⟩ := h.2 hn
  simp only [Option.some.injEq, Addr.mk.injEq, and_true] at he
  obtain ⟨rfl, rfl⟩ := he
  have := hc j u hj
  rwa [Nat.zero_add] at this
theorem rd_out {w w' : World} {g n size : Nat} {xs : List Value} {S : List Nat} (h : Rd w (some ⟨g, 0, none⟩) n size xs) (he : But S w w') (hS : g ∉ S) : Rd w' (some ⟨g, 0, none⟩) n size xs :=
  h.but he fun ad ha => by injection ha with ha; subst ha; exact hS

set_option maxRecDepth 100000 in
set_option maxHeartbeats 4000000 in
theorem related_any (p q : Int) (w : World) :
    Calls Try.prog 5 #[.int .i64 p, .int .i64 q] w fun r w' => r = .returned (.bool true) ∧ Ext w w' := by
  obtain ⟨i, hi, hi1⟩ := mod_ex p 100 (by omega)
  obtain ⟨j, hj, hj1⟩ := mod_ex q 100 (by omega)
  have Hi := Lib.hid (show p % 100 = (i : Int) from hi)
  have Hj := Lib.hid (show q % 100 = (j : Int) from hj)
  clear hi hj
  go_enter Try.func5, Try.ntmps5
  go_wp2_with fail
  go_at_call 8
  refine (mod_to _ _ i _ (by omega) (by omega) Hi.out).mono ?_
  rintro e w1 ⟨rfl, rfl⟩
  go_wp2_with fail
  go_at_call 8
  refine (mod_to _ _ j _ (by omega) (by omega) Hj.out).mono ?_
  rintro e w1 ⟨rfl, rfl⟩
  go_wp2_with fail
  go_at_call 9
  refine (get_is sXx _ _ _ _ _ _ (get_xx_ (by omega) (by omega))).mono ?_
  rintro e w1 ⟨A1, c1, rfl, hO1, hE1⟩
  obtain ⟨g1, rfl, hb1, hl1⟩ := own_form hO1 (by simp)
  simp only [List.length_cons, List.length_nil, Nat.zero_add, Nat.reduceAdd] at hO1 ⊢
  go_wp2_with fail
  go_at_call 9
  refine (get_is sXx100 _ _ _ _ _ _ (get_xx100 (by omega) (by omega))).mono ?_
  rintro e w2 ⟨A2, c2, rfl, hO2, hE2⟩
  obtain ⟨g2, rfl, hb2, hl2⟩ := own_form hO2 (by simp)
  simp only [List.length_cons, List.length_nil, Nat.zero_add, Nat.reduceAdd] at hO2 ⊢
  go_wp2_with fail
  go_at_call 9
  refine (get_is sFixed _ _ _ _ _ _ (get_fixed (by omega) (by omega))).mono ?_
  rintro e w3 ⟨A3, c3, rfl, hO3, hE3⟩
  obtain ⟨g3, rfl, hb3, hl3⟩ := own_form hO3 (by simp)
  simp only [List.length_cons, List.length_nil, Nat.zero_add, Nat.reduceAdd] at hO3 ⊢
  go_wp2_with fail
  go_at_call 9
  refine (get_is sAppel _ _ _ _ _ _ (get_appel (by omega) (by omega))).mono ?_
  rintro e w4 ⟨A4, c4, rfl, hO4, hE4⟩
  obtain ⟨g4, rfl, hb4, hl4⟩ := own_form hO4 (by simp)
  simp only [List.length_cons, List.length_nil, Nat.zero_add, Nat.reduceAdd] at hO4 ⊢
  go_wp2_with fail
  go_at_call 9
  refine (get_is sSemi _ _ _ _ _ _ (get_semi (by omega) (by omega))).mono ?_
  rintro e w5 ⟨A5, c5, rfl, hO5, hE5⟩
  obtain ⟨g5, rfl, hb5, hl5⟩ := own_form hO5 (by simp)
  simp only [List.length_cons, List.length_nil, Nat.zero_add, Nat.reduceAdd] at hO5 ⊢
  go_wp2_with fail
  go_at_call 9
  refine (get_is sSemi _ _ _ _ _ _ (get_semi (by omega) (by omega))).mono ?_
  rintro e w6 ⟨A6, c6, rfl, hO6, hE6⟩
  obtain ⟨g6, rfl, hb6, hl6⟩ := own_form hO6 (by simp)
  simp only [List.length_cons, List.length_nil, Nat.zero_add, Nat.reduceAdd] at hO6 ⊢
  have x12 : Ext w1 w2 := Ext.trans (Ext.alloc (Ext.refl _) _) hE2
  have x23 : Ext w2 w3 := Ext.trans (Ext.alloc (Ext.refl _) _) hE3
  have x34 : Ext w3 w4 := Ext.trans (Ext.alloc (Ext.refl _) _) hE4
  have x45 : Ext w4 w5 := Ext.trans (Ext.alloc (Ext.refl _) _) hE5
  have x56 : Ext w5 w6 := Ext.trans (Ext.alloc (Ext.refl _) _) hE6
  have k1 := (blk_of_ext hE2).ext (x23.trans (x34.trans (x45.trans x56)))
  have k2 := (blk_of_ext hE3).ext (x34.trans (x45.trans x56))
  have k3 := (blk_of_ext hE4).ext (x45.trans x56)
  have k4 := (blk_of_ext hE5).ext x56
  have k5 := blk_of_ext hE6
  have r1 := (Rd.of_own hO1).ext (x12.trans (x23.trans (x34.trans (x45.trans x56))))
  have r2 := (Rd.of_own hO2).ext (x23.trans (x34.trans (x45.trans x56)))
  have o3 := own_ext hO3 (x34.trans (x45.trans x56))
  have r4 := (Rd.of_own hO4).ext (x45.trans x56)
  have r5 := (Rd.of_own hO5).ext x56
  have r6 := Rd.of_own hO6
  have hEw : Ext w w6 := hE1.trans (x12.trans (x23.trans (x34.trans (x45.trans x56))))
  have z1 := hE1.size_le
  simp only [alloc_size] at hb2 hb3 hb4 hb5 hb6
  clear hE1 hE2 hE3 hE4 hE5 hE6 x12 x23 x34 x45 x56 hO1 hO2 hO3 hO4 hO5 hO6
  go_upto_region 8 with fail
  obtain ⟨W8, hW8⟩ : ∃ W, W = w6.alloc (.cells #[.string sSemi, .slice (some ⟨g6, 0, none⟩) 1 c6, .int .i64 1] 28) := ⟨_, rfl⟩
  have hX8 : Ext w6 W8 := by rw [hW8]; exact Ext.alloc (Ext.refl _) _
  have k6 : Blk W8 w6.heap.size 28 #[.string sSemi, .slice (some ⟨g6, 0, none⟩) 1 c6, .int .i64 1] := by rw [hW8]; exact Blk.new rfl
  rw [← hW8]
  have k1 := k1.ext hX8
  have k2 := k2.ext hX8
  have k3 := k3.ext hX8
  have k4 := k4.ext hX8
  have k5 := k5.ext hX8
  have r1 := r1.ext hX8
  have r2 := r2.ext hX8
  have o3 := own_ext o3 hX8
  have r4 := r4.ext hX8
  have r5 := r5.ext hX8
  have r6 := r6.ext hX8
  have hEw := hEw.trans hX8
  clear hX8 hW8
  obtain ⟨hcg3, hfg3⟩ := own_cells o3
  have q0 := hcg3 0 _ rfl
  have q1 := hcg3 1 _ rfl
  have qf0 := hfg3 0
  have qf1 := hfg3 1
  clear hcg3 hfg3
  have m1 := k1.cell
  have m2 := k2.cell
  have m3 := k3.cell
  have m4 := k4.cell
  have n3 := k3.froz
  have l3 := k3.lt
  have e34 : w4.heap.size ≠ w3.heap.size := by omega
  have e3g : w3.heap.size ≠ g3 := by omega
  have eg3 : g3 ≠ w3.heap.size := by omega
  have e4g : w4.heap.size ≠ g3 := by omega
  have lg3 : g3 < W8.heap.size := cell_lt q0
  have hsf := fun (a : Addr) (x : Nat) (W : World) => run_store Try.prog W a (.float .f64 x) .plain rfl
  have hBt : But [g3, w3.heap.size] W8 (((W8.setCell ⟨g3, 0, none⟩ (.float .f64 0)).setCell ⟨g3, 1, none⟩ (.int .i64 0)).setCell ⟨w3.heap.size, 0, none⟩ (.string sAppel)).drew :=
    But.drew (But.setCell (But.setCell (But.setCell (But.refl _ _) (by simp) _) (by simp) _) (by simp) _)
  have hfin : Blk (((W8.setCell ⟨g3, 0, none⟩ (.float .f64 0)).setCell ⟨g3, 1, none⟩ (.int .i64 0)).setCell ⟨w3.heap.size, 0, none⟩ (.string sAppel)).drew w3.heap.size 28 #[.string sAppel, .slice (some ⟨g3, 0, none⟩) 2 c3, .int .i64 8] ∧
      Rd (((W8.setCell ⟨g3, 0, none⟩ (.float .f64 0)).setCell ⟨g3, 1, none⟩ (.int .i64 0)).setCell ⟨w3.heap.size, 0, none⟩ (.string sAppel)).drew (some ⟨g3, 0, none⟩) 2 4 (flatR [(0, 0, 0, 1), (0, 0, 0, 1)]) :=
    ⟨(((k3.far (p := ⟨g3, 0, none⟩) e3g _).far (p := ⟨g3, 1, none⟩) e3g _).set_ 0 (.string sAppel)).drew, Rd.of_own (own_drew (own_other (own_set (own_set o3 0 (.float .f64 0)) 1 (.int .i64 0)) eg3 _))⟩
  have hrest := And.intro (k1.but hBt (by simp; omega)) (And.intro (k2.but hBt (by simp; omega)) (And.intro (k4.but hBt (by simp; omega)) (And.intro (k5.but hBt (by simp; omega)) (And.intro (k6.but hBt (by simp; omega)) (And.intro (rd_out r1 hBt (by simp; omega)) (And.intro (rd_out r2 hBt (by simp; omega)) (And.intro (rd_out r4 hBt (by simp; omega)) (And.intro (rd_out r5 hBt (by simp; omega)) (And.intro (rd_out r6 hBt (by simp; omega)) (But.ext hEw hBt (by simp; omega)))))))))))
  have Hfin := Lib.hid hfin
  have Hrest := Lib.hid hrest
  clear hfin hrest hBt k1 k2 k3 k4 k5 k6 r1 r2 r4 r5 r6 o3 hEw
  go_upto_region 10 with fail
  go_cut [] (fun wx => (Blk wx w3.heap.size 28 #[.string sAppel, .slice (some ⟨g3, 0, none⟩) 2 c3, .int .i64 8] ∧ Rd wx (some ⟨g3, 0, none⟩) 2 4 (flatR [(0, 0, 0, 1), (0, 0, 0, 1)])) ∧
    Blk wx w1.heap.size 28 #[.string sXx, .slice (some ⟨g1, 0, none⟩) 2 c1, .int .i64 0] ∧ Blk wx w2.heap.size 28 #[.string sXx100, .slice (some ⟨g2, 0, none⟩) 3 c2, .int .i64 8] ∧ Blk wx w4.heap.size 28 #[.string sAppel, .slice (some ⟨g4, 0, none⟩) 2 c4, .int .i64 8] ∧
    Blk wx w5.heap.size 28 #[.string sSemi, .slice (some ⟨g5, 0, none⟩) 1 c5, .int .i64 1] ∧ Blk wx w6.heap.size 28 #[.string sSemi, .slice (some ⟨g6, 0, none⟩) 1 c6, .int .i64 1] ∧
    Rd wx (some ⟨g1, 0, none⟩) 2 4 (flatR [(pctX (1 + (i : Int)), 0, 1, 1), (pctX (1 + (i : Int)), 0, 1, 1)]) ∧ Rd wx (some ⟨g2, 0, none⟩) 3 4 (flatR [(pctX (1 + (i : Int)), 0, 1, 1), (pctX (1 + (i : Int)), 0, 1, 2), (0, 0, 0, 2)]) ∧
    Rd wx (some ⟨g4, 0, none⟩) 2 4 (flatR [(0, 0, 0, 1), (0, 0, 0, 1)]) ∧ Rd wx (some ⟨g5, 0, none⟩) 1 4 (flatR [(0, 0, 0, 0)]) ∧ Rd wx (some ⟨g6, 0, none⟩) 1 4 (flatR [(0, 0, 0, 0)]) ∧ Ext w wx)
  case first =>
    clear m1 m2 Hi Hj
    refine wp_region_treeB [g3, w3.heap.size] (.take 0 (.take 2 (.take 4 (.take 5 (.alt 1 (.take 6 (.take 7 (.alt 3 (.alt 8 (.take 9 (.take 10 (.alt 11 (.take 12 (.alt 13 .done .none)) .none))) .none) (.alt 8 (.alt 3 (.take 9 (.take 10 (.alt 11 (.take 12 (.alt 13 .done .none)) .none))) .none) .none)))) (.alt 3 (.alt 1 (.take 6 (.take 7 (.alt 8 (.take 9 (.take 10 (.alt 11 (.take 12 (.alt 13 .done .none)) .none))) .none))) .none) .none)))))) Try.mixed (by kernel_rfl) ?_
    intro hx hy
    first
      | (refine wpT_takeB hx (v := ?_) (List.getElem?_toArray.trans (by rfl)) (by rfl) (fun _ hc => ?_) ?_
         rotate_left
         focus (go_simp; (try go_ints); exact rfl)
         simp only [Act.put, List.setIfInBounds_toArray, List.set_cons_zero, List.set_cons_succ])
      | (refine wpT_skip (List.getElem?_toArray.trans (by rfl)) (by rfl) ?_; simp only [Act.put, List.setIfInBounds_toArray, List.set_cons_zero, List.set_cons_succ])
    first
      | (refine wpT_takeB hx (v := ?_) (List.getElem?_toArray.trans (by rfl)) (by rfl) (fun _ hc => ?_) ?_
         rotate_left
         focus (go_simp; (try go_ints); exact rfl)
         simp only [Act.put, List.setIfInBounds_toArray, List.set_cons_zero, List.set_cons_succ])
      | (refine wpT_skip (List.getElem?_toArray.trans (by rfl)) (by rfl) ?_; simp only [Act.put, List.setIfInBounds_toArray, List.set_cons_zero, List.set_cons_succ])
    first
      | (refine wpT_takeB hx (v := ?_) (List.getElem?_toArray.trans (by rfl)) (by rfl) (fun _ hc => ?_) ?_
         rotate_left
         focus (go_simp; (try go_ints); exact rfl)
         simp only [Act.put, List.setIfInBounds_toArray, List.set_cons_zero, List.set_cons_succ])
      | (refine wpT_skip (List.getElem?_toArray.trans (by rfl)) (by rfl) ?_; simp only [Act.put, List.setIfInBounds_toArray, List.set_cons_zero, List.set_cons_succ])
    first
      | (refine wpT_takeB hx (v := ?_) (List.getElem?_toArray.trans (by rfl)) (by rfl) (fun _ hc => ?_) ?_
         rotate_left
         focus (go_simp; (try go_ints); exact rfl)
         simp only [Act.put, List.setIfInBounds_toArray, List.set_cons_zero, List.set_cons_succ])
      | (refine wpT_skip (List.getElem?_toArray.trans (by rfl)) (by rfl) ?_; simp only [Act.put, List.setIfInBounds_toArray, List.set_cons_zero, List.set_cons_succ])
    refine wpT_call (List.getElem?_toArray.trans (by rfl)) (by rfl) (fun K hK => ?_) ?_
    · skip
      have hcy := Ext.cell hy
      have hfy := Ext.froz hy
      go_simp
      first | (refine hK _ _ ?_ ?_; (focus ((repeat (first | (with_reducible exact But.refl _ _) | assumption | (with_reducible refine But.drew ?_) | (with_reducible refine But.drewL ?_) | (with_reducible refine But.setCell ?_ ?_ _; rotate_left; (focus (simp; done))) | (with_reducible refine But.setCellL ?_ ?_; rotate_left; (focus (simp; done))) | (with_reducible refine But.alloc2 ?_ ?_; rotate_left; (focus (simp [World.setCell]; done))) | (with_reducible refine But.allocL ?_ ?_ ?_; rotate_left; (focus (simp; done)); (focus (simp; done))) | (with_reducible refine But.alloc ?_ _))); done))) | (refine hK undef _ ?_ ?_; (focus ((repeat (first | (with_reducible exact But.refl _ _) | assumption | (with_reducible refine But.drew ?_) | (with_reducible refine But.drewL ?_) | (with_reducible refine But.setCell ?_ ?_ _; rotate_left; (focus (simp; done))) | (with_reducible refine But.setCellL ?_ ?_; rotate_left; (focus (simp; done))) | (with_reducible refine But.alloc2 ?_ ?_; rotate_left; (focus (simp [World.setCell]; done))) | (with_reducible refine But.allocL ?_ ?_ ?_; rotate_left; (focus (simp; done)); (focus (simp; done))) | (with_reducible refine But.alloc ?_ _))); done)))
      clear hK
      intro hr
      replace hx := hx.trans hr
      clear hr
      try simp only [Act.put, List.setIfInBounds_toArray, List.set_cons_zero, List.set_cons_succ]
      first
        | (refine wpT_takeB hx (v := ?_) (List.getElem?_toArray.trans (by rfl)) (by rfl) (fun _ hc => ?_) ?_
           rotate_left
           focus (go_simp; (try go_ints); exact rfl)
           simp only [Act.put, List.setIfInBounds_toArray, List.set_cons_zero, List.set_cons_succ])
        | (refine wpT_skip (List.getElem?_toArray.trans (by rfl)) (by rfl) ?_; simp only [Act.put, List.setIfInBounds_toArray, List.set_cons_zero, List.set_cons_succ])
      first
        | (refine wpT_takeB hx (v := ?_) (List.getElem?_toArray.trans (by rfl)) (by rfl) (fun _ hc => ?_) ?_
           rotate_left
           focus (go_simp; (try go_ints); exact rfl)
           simp only [Act.put, List.setIfInBounds_toArray, List.set_cons_zero, List.set_cons_succ])
        | (refine wpT_skip (List.getElem?_toArray.trans (by rfl)) (by rfl) ?_; simp only [Act.put, List.setIfInBounds_toArray, List.set_cons_zero, List.set_cons_succ])
      refine wpT_call (List.getElem?_toArray.trans (by rfl)) (by rfl) (fun K hK => ?_) ?_
      · skip
        have hcy := Ext.cell hy
        have hfy := Ext.froz hy
        go_simp
        first | (refine hK _ _ ?_ ?_; (focus ((repeat (first | (with_reducible exact But.refl _ _) | assumption | (with_reducible refine But.drew ?_) | (with_reducible refine But.drewL ?_) | (with_reducible refine But.setCell ?_ ?_ _; rotate_left; (focus (simp; done))) | (with_reducible refine But.setCellL ?_ ?_; rotate_left; (focus (simp; done))) | (with_reducible refine But.alloc2 ?_ ?_; rotate_left; (focus (simp [World.setCell]; done))) | (with_reducible refine But.allocL ?_ ?_ ?_; rotate_left; (focus (simp; done)); (focus (simp; done))) | (with_reducible refine But.alloc ?_ _))); done))) | (refine hK undef _ ?_ ?_; (focus ((repeat (first | (with_reducible exact But.refl _ _) | assumption | (with_reducible refine But.drew ?_) | (with_reducible refine But.drewL ?_) | (with_reducible refine But.setCell ?_ ?_ _; rotate_left; (focus (simp; done))) | (with_reducible refine But.setCellL ?_ ?_; rotate_left; (focus (simp; done))) | (with_reducible refine But.alloc2 ?_ ?_; rotate_left; (focus (simp [World.setCell]; done))) | (with_reducible refine But.allocL ?_ ?_ ?_; rotate_left; (focus (simp; done)); (focus (simp; done))) | (with_reducible refine But.alloc ?_ _))); done)))
        clear hK
        intro hr
        replace hx := hx.trans hr
        clear hr
        try simp only [Act.put, List.setIfInBounds_toArray, List.set_cons_zero, List.set_cons_succ]
        refine wpT_call (List.getElem?_toArray.trans (by rfl)) (by rfl) (fun K hK => ?_) ?_
        · skip
          have hcy := Ext.cell hy
          have hfy := Ext.froz hy
          go_simp
          first | (refine hK _ _ ?_ ?_; (focus ((repeat (first | (with_reducible exact But.refl _ _) | assumption | (with_reducible refine But.drew ?_) | (with_reducible refine But.drewL ?_) | (with_reducible refine But.setCell ?_ ?_ _; rotate_left; (focus (simp; done))) | (with_reducible refine But.setCellL ?_ ?_; rotate_left; (focus (simp; done))) | (with_reducible refine But.alloc2 ?_ ?_; rotate_left; (focus (simp [World.setCell]; done))) | (with_reducible refine But.allocL ?_ ?_ ?_; rotate_left; (focus (simp; done)); (focus (simp; done))) | (with_reducible refine But.alloc ?_ _))); done))) | (refine hK undef _ ?_ ?_; (focus ((repeat (first | (with_reducible exact But.refl _ _) | assumption | (with_reducible refine But.drew ?_) | (with_reducible refine But.drewL ?_) | (with_reducible refine But.setCell ?_ ?_ _; rotate_left; (focus (simp; done))) | (with_reducible refine But.setCellL ?_ ?_; rotate_left; (focus (simp; done))) | (with_reducible refine But.alloc2 ?_ ?_; rotate_left; (focus (simp [World.setCell]; done))) | (with_reducible refine But.allocL ?_ ?_ ?_; rotate_left; (focus (simp; done)); (focus (simp; done))) | (with_reducible refine But.alloc ?_ _))); done)))
          clear hK
          intro hr
          replace hx := hx.trans hr
          clear hr
          try simp only [Act.put, List.setIfInBounds_toArray, List.set_cons_zero, List.set_cons_succ]
          first
            | (refine wpT_takeB hx (v := ?_) (List.getElem?_toArray.trans (by rfl)) (by rfl) (fun _ hc => ?_) ?_
               rotate_left
               focus (go_simp; (try go_ints); exact rfl)
               simp only [Act.put, List.setIfInBounds_toArray, List.set_cons_zero, List.set_cons_succ])
            | (refine wpT_skip (List.getElem?_toArray.trans (by rfl)) (by rfl) ?_; simp only [Act.put, List.setIfInBounds_toArray, List.set_cons_zero, List.set_cons_succ])
          first
            | (refine wpT_takeB hx (v := ?_) (List.getElem?_toArray.trans (by rfl)) (by rfl) (fun _ hc => ?_) ?_
               rotate_left
               focus (go_simp; (try go_ints); exact rfl)
               simp only [Act.put, List.setIfInBounds_toArray, List.set_cons_zero, List.set_cons_succ])
            | (refine wpT_skip (List.getElem?_toArray.trans (by rfl)) (by rfl) ?_; simp only [Act.put, List.setIfInBounds_toArray, List.set_cons_zero, List.set_cons_succ])
          refine wpT_call (List.getElem?_toArray.trans (by rfl)) (by rfl) (fun K hK => ?_) ?_
          · skip
            have hcy := Ext.cell hy
            have hfy := Ext.froz hy
            go_simp
            first | (refine hK _ _ ?_ ?_; (focus ((repeat (first | (with_reducible exact But.refl _ _) | assumption | (with_reducible refine But.drew ?_) | (with_reducible refine But.drewL ?_) | (with_reducible refine But.setCell ?_ ?_ _; rotate_left; (focus (simp; done))) | (with_reducible refine But.setCellL ?_ ?_; rotate_left; (focus (simp; done))) | (with_reducible refine But.alloc2 ?_ ?_; rotate_left; (focus (simp [World.setCell]; done))) | (with_reducible refine But.allocL ?_ ?_ ?_; rotate_left; (focus (simp; done)); (focus (simp; done))) | (with_reducible refine But.alloc ?_ _))); done))) | (refine hK undef _ ?_ ?_; (focus ((repeat (first | (with_reducible exact But.refl _ _) | assumption | (with_reducible refine But.drew ?_) | (with_reducible refine But.drewL ?_) | (with_reducible refine But.setCell ?_ ?_ _; rotate_left; (focus (simp; done))) | (with_reducible refine But.setCellL ?_ ?_; rotate_left; (focus (simp; done))) | (with_reducible refine But.alloc2 ?_ ?_; rotate_left; (focus (simp [World.setCell]; done))) | (with_reducible refine But.allocL ?_ ?_ ?_; rotate_left; (focus (simp; done)); (focus (simp; done))) | (with_reducible refine But.alloc ?_ _))); done)))
            clear hK
            intro hr
            replace hx := hx.trans hr
            clear hr
            try simp only [Act.put, List.setIfInBounds_toArray, List.set_cons_zero, List.set_cons_succ]
            first
              | (refine wpT_takeB hx (v := ?_) (List.getElem?_toArray.trans (by rfl)) (by rfl) (fun _ hc => ?_) ?_
                 rotate_left
                 focus (go_simp; (try go_ints); exact rfl)
                 simp only [Act.put, List.setIfInBounds_toArray, List.set_cons_zero, List.set_cons_succ])
              | (refine wpT_skip (List.getElem?_toArray.trans (by rfl)) (by rfl) ?_; simp only [Act.put, List.setIfInBounds_toArray, List.set_cons_zero, List.set_cons_succ])
            refine wpT_call (List.getElem?_toArray.trans (by rfl)) (by rfl) (fun K hK => ?_) ?_
            · skip
              have hcy := Ext.cell hy
              have hfy := Ext.froz hy
              go_simp
              first | (refine hK _ _ ?_ ?_; (focus ((repeat (first | (with_reducible exact But.refl _ _) | assumption | (with_reducible refine But.drew ?_) | (with_reducible refine But.drewL ?_) | (with_reducible refine But.setCell ?_ ?_ _; rotate_left; (focus (simp; done))) | (with_reducible refine But.setCellL ?_ ?_; rotate_left; (focus (simp; done))) | (with_reducible refine But.alloc2 ?_ ?_; rotate_left; (focus (simp [World.setCell]; done))) | (with_reducible refine But.allocL ?_ ?_ ?_; rotate_left; (focus (simp; done)); (focus (simp; done))) | (with_reducible refine But.alloc ?_ _))); done))) | (refine hK undef _ ?_ ?_; (focus ((repeat (first | (with_reducible exact But.refl _ _) | assumption | (with_reducible refine But.drew ?_) | (with_reducible refine But.drewL ?_) | (with_reducible refine But.setCell ?_ ?_ _; rotate_left; (focus (simp; done))) | (with_reducible refine But.setCellL ?_ ?_; rotate_left; (focus (simp; done))) | (with_reducible refine But.alloc2 ?_ ?_; rotate_left; (focus (simp [World.setCell]; done))) | (with_reducible refine But.allocL ?_ ?_ ?_; rotate_left; (focus (simp; done)); (focus (simp; done))) | (with_reducible refine But.alloc ?_ _))); done)))
              clear hK
              intro hr
              replace hx := hx.trans hr
              clear hr
              try simp only [Act.put, List.setIfInBounds_toArray, List.set_cons_zero, List.set_cons_succ]
              refine wpT_done ?_
              go_wp2
              go_meet
              exact ⟨Hfin.out, Hrest.out⟩
            exact wpT_none
          exact wpT_none
        exact wpT_none
      refine wpT_call (List.getElem?_toArray.trans (by rfl)) (by rfl) (fun K hK => ?_) ?_
      · skip
        have hcy := Ext.cell hy
        have hfy := Ext.froz hy
        go_simp
        first | (refine hK _ _ ?_ ?_; (focus ((repeat (first | (with_reducible exact But.refl _ _) | assumption | (with_reducible refine But.drew ?_) | (with_reducible refine But.drewL ?_) | (with_reducible refine But.setCell ?_ ?_ _; rotate_left; (focus (simp; done))) | (with_reducible refine But.setCellL ?_ ?_; rotate_left; (focus (simp; done))) | (with_reducible refine But.alloc2 ?_ ?_; rotate_left; (focus (simp [World.setCell]; done))) | (with_reducible refine But.allocL ?_ ?_ ?_; rotate_left; (focus (simp; done)); (focus (simp; done))) | (with_reducible refine But.alloc ?_ _))); done))) | (refine hK undef _ ?_ ?_; (focus ((repeat (first | (with_reducible exact But.refl _ _) | assumption | (with_reducible refine But.drew ?_) | (with_reducible refine But.drewL ?_) | (with_reducible refine But.setCell ?_ ?_ _; rotate_left; (focus (simp; done))) | (with_reducible refine But.setCellL ?_ ?_; rotate_left; (focus (simp; done))) | (with_reducible refine But.alloc2 ?_ ?_; rotate_left; (focus (simp [World.setCell]; done))) | (with_reducible refine But.allocL ?_ ?_ ?_; rotate_left; (focus (simp; done)); (focus (simp; done))) | (with_reducible refine But.alloc ?_ _))); done)))
        clear hK
        intro hr
        replace hx := hx.trans hr
        clear hr
        try simp only [Act.put, List.setIfInBounds_toArray, List.set_cons_zero, List.set_cons_succ]
        refine wpT_call (List.getElem?_toArray.trans (by rfl)) (by rfl) (fun K hK => ?_) ?_
        · skip
          have hcy := Ext.cell hy
          have hfy := Ext.froz hy
          go_simp
          first | (refine hK _ _ ?_ ?_; (focus ((repeat (first | (with_reducible exact But.refl _ _) | assumption | (with_reducible refine But.drew ?_) | (with_reducible refine But.drewL ?_) | (with_reducible refine But.setCell ?_ ?_ _; rotate_left; (focus (simp; done))) | (with_reducible refine But.setCellL ?_ ?_; rotate_left; (focus (simp; done))) | (with_reducible refine But.alloc2 ?_ ?_; rotate_left; (focus (simp [World.setCell]; done))) | (with_reducible refine But.allocL ?_ ?_ ?_; rotate_left; (focus (simp; done)); (focus (simp; done))) | (with_reducible refine But.alloc ?_ _))); done))) | (refine hK undef _ ?_ ?_; (focus ((repeat (first | (with_reducible exact But.refl _ _) | assumption | (with_reducible refine But.drew ?_) | (with_reducible refine But.drewL ?_) | (with_reducible refine But.setCell ?_ ?_ _; rotate_left; (focus (simp; done))) | (with_reducible refine But.setCellL ?_ ?_; rotate_left; (focus (simp; done))) | (with_reducible refine But.alloc2 ?_ ?_; rotate_left; (focus (simp [World.setCell]; done))) | (with_reducible refine But.allocL ?_ ?_ ?_; rotate_left; (focus (simp; done)); (focus (simp; done))) | (with_reducible refine But.alloc ?_ _))); done)))
          clear hK
          intro hr
          replace hx := hx.trans hr
          clear hr
          try simp only [Act.put, List.setIfInBounds_toArray, List.set_cons_zero, List.set_cons_succ]
          first
            | (refine wpT_takeB hx (v := ?_) (List.getElem?_toArray.trans (by rfl)) (by rfl) (fun _ hc => ?_) ?_
               rotate_left
               focus (go_simp; (try go_ints); exact rfl)
               simp only [Act.put, List.setIfInBounds_toArray, List.set_cons_zero, List.set_cons_succ])
            | (refine wpT_skip (List.getElem?_toArray.trans (by rfl)) (by rfl) ?_; simp only [Act.put, List.setIfInBounds_toArray, List.set_cons_zero, List.set_cons_succ])
          first
            | (refine wpT_takeB hx (v := ?_) (List.getElem?_toArray.trans (by rfl)) (by rfl) (fun _ hc => ?_) ?_
               rotate_left
               focus (go_simp; (try go_ints); exact rfl)
               simp only [Act.put, List.setIfInBounds_toArray, List.set_cons_zero, List.set_cons_succ])
            | (refine wpT_skip (List.getElem?_toArray.trans (by rfl)) (by rfl) ?_; simp only [Act.put, List.setIfInBounds_toArray, List.set_cons_zero, List.set_cons_succ])
          refine wpT_call (List.getElem?_toArray.trans (by rfl)) (by rfl) (fun K hK => ?_) ?_
          · skip
            have hcy := Ext.cell hy
            have hfy := Ext.froz hy
            go_simp
            first | (refine hK _ _ ?_ ?_; (focus ((repeat (first | (with_reducible exact But.refl _ _) | assumption | (with_reducible refine But.drew ?_) | (with_reducible refine But.drewL ?_) | (with_reducible refine But.setCell ?_ ?_ _; rotate_left; (focus (simp; done))) | (with_reducible refine But.setCellL ?_ ?_; rotate_left; (focus (simp; done))) | (with_reducible refine But.alloc2 ?_ ?_; rotate_left; (focus (simp [World.setCell]; done))) | (with_reducible refine But.allocL ?_ ?_ ?_; rotate_left; (focus (simp; done)); (focus (simp; done))) | (with_reducible refine But.alloc ?_ _))); done))) | (refine hK undef _ ?_ ?_; (focus ((repeat (first | (with_reducible exact But.refl _ _) | assumption | (with_reducible refine But.drew ?_) | (with_reducible refine But.drewL ?_) | (with_reducible refine But.setCell ?_ ?_ _; rotate_left; (focus (simp; done))) | (with_reducible refine But.setCellL ?_ ?_; rotate_left; (focus (simp; done))) | (with_reducible refine But.alloc2 ?_ ?_; rotate_left; (focus (simp [World.setCell]; done))) | (with_reducible refine But.allocL ?_ ?_ ?_; rotate_left; (focus (simp; done)); (focus (simp; done))) | (with_reducible refine But.alloc ?_ _))); done)))
            clear hK
            intro hr
            replace hx := hx.trans hr
            clear hr
            try simp only [Act.put, List.setIfInBounds_toArray, List.set_cons_zero, List.set_cons_succ]
            first
              | (refine wpT_takeB hx (v := ?_) (List.getElem?_toArray.trans (by rfl)) (by rfl) (fun _ hc => ?_) ?_
                 rotate_left
                 focus (go_simp; (try go_ints); exact rfl)
                 simp only [Act.put, List.setIfInBounds_toArray, List.set_cons_zero, List.set_cons_succ])
              | (refine wpT_skip (List.getElem?_toArray.trans (by rfl)) (by rfl) ?_; simp only [Act.put, List.setIfInBounds_toArray, List.set_cons_zero, List.set_cons_succ])
            refine wpT_call (List.getElem?_toArray.trans (by rfl)) (by rfl) (fun K hK => ?_) ?_
            · skip
              have hcy := Ext.cell hy
              have hfy := Ext.froz hy
              go_simp
              first | (refine hK _ _ ?_ ?_; (focus ((repeat (first | (with_reducible exact But.refl _ _) | assumption | (with_reducible refine But.drew ?_) | (with_reducible refine But.drewL ?_) | (with_reducible refine But.setCell ?_ ?_ _; rotate_left; (focus (simp; done))) | (with_reducible refine But.setCellL ?_ ?_; rotate_left; (focus (simp; done))) | (with_reducible refine But.alloc2 ?_ ?_; rotate_left; (focus (simp [World.setCell]; done))) | (with_reducible refine But.allocL ?_ ?_ ?_; rotate_left; (focus (simp; done)); (focus (simp; done))) | (with_reducible refine But.alloc ?_ _))); done))) | (refine hK undef _ ?_ ?_; (focus ((repeat (first | (with_reducible exact But.refl _ _) | assumption | (with_reducible refine But.drew ?_) | (with_reducible refine But.drewL ?_) | (with_reducible refine But.setCell ?_ ?_ _; rotate_left; (focus (simp; done))) | (with_reducible refine But.setCellL ?_ ?_; rotate_left; (focus (simp; done))) | (with_reducible refine But.alloc2 ?_ ?_; rotate_left; (focus (simp [World.setCell]; done))) | (with_reducible refine But.allocL ?_ ?_ ?_; rotate_left; (focus (simp; done)); (focus (simp; done))) | (with_reducible refine But.alloc ?_ _))); done)))
              clear hK
              intro hr
              replace hx := hx.trans hr
              clear hr
              try simp only [Act.put, List.setIfInBounds_toArray, List.set_cons_zero, List.set_cons_succ]
              refine wpT_done ?_
              go_wp2
              go_meet
              exact ⟨Hfin.out, Hrest.out⟩
            exact wpT_none
          exact wpT_none
        exact wpT_none
      exact wpT_none
    refine wpT_call (List.getElem?_toArray.trans (by rfl)) (by rfl) (fun K hK => ?_) ?_
    · skip
      have hcy := Ext.cell hy
      have hfy := Ext.froz hy
      go_simp
      first | (refine hK _ _ ?_ ?_; (focus ((repeat (first | (with_reducible exact But.refl _ _) | assumption | (with_reducible refine But.drew ?_) | (with_reducible refine But.drewL ?_) | (with_reducible refine But.setCell ?_ ?_ _; rotate_left; (focus (simp; done))) | (with_reducible refine But.setCellL ?_ ?_; rotate_left; (focus (simp; done))) | (with_reducible refine But.alloc2 ?_ ?_; rotate_left; (focus (simp [World.setCell]; done))) | (with_reducible refine But.allocL ?_ ?_ ?_; rotate_left; (focus (simp; done)); (focus (simp; done))) | (with_reducible refine But.alloc ?_ _))); done))) | (refine hK undef _ ?_ ?_; (focus ((repeat (first | (with_reducible exact But.refl _ _) | assumption | (with_reducible refine But.drew ?_) | (with_reducible refine But.drewL ?_) | (with_reducible refine But.setCell ?_ ?_ _; rotate_left; (focus (simp; done))) | (with_reducible refine But.setCellL ?_ ?_; rotate_left; (focus (simp; done))) | (with_reducible refine But.alloc2 ?_ ?_; rotate_left; (focus (simp [World.setCell]; done))) | (with_reducible refine But.allocL ?_ ?_ ?_; rotate_left; (focus (simp; done)); (focus (simp; done))) | (with_reducible refine But.alloc ?_ _))); done)))
      clear hK
      intro hr
      replace hx := hx.trans hr
      clear hr
      try simp only [Act.put, List.setIfInBounds_toArray, List.set_cons_zero, List.set_cons_succ]
      refine wpT_call (List.getElem?_toArray.trans (by rfl)) (by rfl) (fun K hK => ?_) ?_
      · skip
        have hcy := Ext.cell hy
        have hfy := Ext.froz hy
        go_simp
        first | (refine hK _ _ ?_ ?_; (focus ((repeat (first | (with_reducible exact But.refl _ _) | assumption | (with_reducible refine But.drew ?_) | (with_reducible refine But.drewL ?_) | (with_reducible refine But.setCell ?_ ?_ _; rotate_left; (focus (simp; done))) | (with_reducible refine But.setCellL ?_ ?_; rotate_left; (focus (simp; done))) | (with_reducible refine But.alloc2 ?_ ?_; rotate_left; (focus (simp [World.setCell]; done))) | (with_reducible refine But.allocL ?_ ?_ ?_; rotate_left; (focus (simp; done)); (focus (simp; done))) | (with_reducible refine But.alloc ?_ _))); done))) | (refine hK undef _ ?_ ?_; (focus ((repeat (first | (with_reducible exact But.refl _ _) | assumption | (with_reducible refine But.drew ?_) | (with_reducible refine But.drewL ?_) | (with_reducible refine But.setCell ?_ ?_ _; rotate_left; (focus (simp; done))) | (with_reducible refine But.setCellL ?_ ?_; rotate_left; (focus (simp; done))) | (with_reducible refine But.alloc2 ?_ ?_; rotate_left; (focus (simp [World.setCell]; done))) | (with_reducible refine But.allocL ?_ ?_ ?_; rotate_left; (focus (simp; done)); (focus (simp; done))) | (with_reducible refine But.alloc ?_ _))); done)))
        clear hK
        intro hr
        replace hx := hx.trans hr
        clear hr
        try simp only [Act.put, List.setIfInBounds_toArray, List.set_cons_zero, List.set_cons_succ]
        first
          | (refine wpT_takeB hx (v := ?_) (List.getElem?_toArray.trans (by rfl)) (by rfl) (fun _ hc => ?_) ?_
             rotate_left
             focus (go_simp; (try go_ints); exact rfl)
             simp only [Act.put, List.setIfInBounds_toArray, List.set_cons_zero, List.set_cons_succ])
          | (refine wpT_skip (List.getElem?_toArray.trans (by rfl)) (by rfl) ?_; simp only [Act.put, List.setIfInBounds_toArray, List.set_cons_zero, List.set_cons_succ])
        first
          | (refine wpT_takeB hx (v := ?_) (List.getElem?_toArray.trans (by rfl)) (by rfl) (fun _ hc => ?_) ?_
             rotate_left
             focus (go_simp; (try go_ints); exact rfl)
             simp only [Act.put, List.setIfInBounds_toArray, List.set_cons_zero, List.set_cons_succ])
          | (refine wpT_skip (List.getElem?_toArray.trans (by rfl)) (by rfl) ?_; simp only [Act.put, List.setIfInBounds_toArray, List.set_cons_zero, List.set_cons_succ])
        refine wpT_call (List.getElem?_toArray.trans (by rfl)) (by rfl) (fun K hK => ?_) ?_
        · skip
          have hcy := Ext.cell hy
          have hfy := Ext.froz hy
          go_simp
          first | (refine hK _ _ ?_ ?_; (focus ((repeat (first | (with_reducible exact But.refl _ _) | assumption | (with_reducible refine But.drew ?_) | (with_reducible refine But.drewL ?_) | (with_reducible refine But.setCell ?_ ?_ _; rotate_left; (focus (simp; done))) | (with_reducible refine But.setCellL ?_ ?_; rotate_left; (focus (simp; done))) | (with_reducible refine But.alloc2 ?_ ?_; rotate_left; (focus (simp [World.setCell]; done))) | (with_reducible refine But.allocL ?_ ?_ ?_; rotate_left; (focus (simp; done)); (focus (simp; done))) | (with_reducible refine But.alloc ?_ _))); done))) | (refine hK undef _ ?_ ?_; (focus ((repeat (first | (with_reducible exact But.refl _ _) | assumption | (with_reducible refine But.drew ?_) | (with_reducible refine But.drewL ?_) | (with_reducible refine But.setCell ?_ ?_ _; rotate_left; (focus (simp; done))) | (with_reducible refine But.setCellL ?_ ?_; rotate_left; (focus (simp; done))) | (with_reducible refine But.alloc2 ?_ ?_; rotate_left; (focus (simp [World.setCell]; done))) | (with_reducible refine But.allocL ?_ ?_ ?_; rotate_left; (focus (simp; done)); (focus (simp; done))) | (with_reducible refine But.alloc ?_ _))); done)))
          clear hK
          intro hr
          replace hx := hx.trans hr
          clear hr
          try simp only [Act.put, List.setIfInBounds_toArray, List.set_cons_zero, List.set_cons_succ]
          first
            | (refine wpT_takeB hx (v := ?_) (List.getElem?_toArray.trans (by rfl)) (by rfl) (fun _ hc => ?_) ?_
               rotate_left
               focus (go_simp; (try go_ints); exact rfl)
               simp only [Act.put, List.setIfInBounds_toArray, List.set_cons_zero, List.set_cons_succ])
            | (refine wpT_skip (List.getElem?_toArray.trans (by rfl)) (by rfl) ?_; simp only [Act.put, List.setIfInBounds_toArray, List.set_cons_zero, List.set_cons_succ])
          first
            | (refine wpT_takeB hx (v := ?_) (List.getElem?_toArray.trans (by rfl)) (by rfl) (fun _ hc => ?_) ?_
               rotate_left
               focus (go_simp; (try go_ints); exact rfl)
               simp only [Act.put, List.setIfInBounds_toArray, List.set_cons_zero, List.set_cons_succ])
            | (refine wpT_skip (List.getElem?_toArray.trans (by rfl)) (by rfl) ?_; simp only [Act.put, List.setIfInBounds_toArray, List.set_cons_zero, List.set_cons_succ])
          refine wpT_call (List.getElem?_toArray.trans (by rfl)) (by rfl) (fun K hK => ?_) ?_
          · skip
            have hcy := Ext.cell hy
            have hfy := Ext.froz hy
            go_simp
            first | (refine hK _ _ ?_ ?_; (focus ((repeat (first | (with_reducible exact But.refl _ _) | assumption | (with_reducible refine But.drew ?_) | (with_reducible refine But.drewL ?_) | (with_reducible refine But.setCell ?_ ?_ _; rotate_left; (focus (simp; done))) | (with_reducible refine But.setCellL ?_ ?_; rotate_left; (focus (simp; done))) | (with_reducible refine But.alloc2 ?_ ?_; rotate_left; (focus (simp [World.setCell]; done))) | (with_reducible refine But.allocL ?_ ?_ ?_; rotate_left; (focus (simp; done)); (focus (simp; done))) | (with_reducible refine But.alloc ?_ _))); done))) | (refine hK undef _ ?_ ?_; (focus ((repeat (first | (with_reducible exact But.refl _ _) | assumption | (with_reducible refine But.drew ?_) | (with_reducible refine But.drewL ?_) | (with_reducible refine But.setCell ?_ ?_ _; rotate_left; (focus (simp; done))) | (with_reducible refine But.setCellL ?_ ?_; rotate_left; (focus (simp; done))) | (with_reducible refine But.alloc2 ?_ ?_; rotate_left; (focus (simp [World.setCell]; done))) | (with_reducible refine But.allocL ?_ ?_ ?_; rotate_left; (focus (simp; done)); (focus (simp; done))) | (with_reducible refine But.alloc ?_ _))); done)))
            clear hK
            intro hr
            replace hx := hx.trans hr
            clear hr
            try simp only [Act.put, List.setIfInBounds_toArray, List.set_cons_zero, List.set_cons_succ]
            first
              | (refine wpT_takeB hx (v := ?_) (List.getElem?_toArray.trans (by rfl)) (by rfl) (fun _ hc => ?_) ?_
                 rotate_left
                 focus (go_simp; (try go_ints); exact rfl)
                 simp only [Act.put, List.setIfInBounds_toArray, List.set_cons_zero, List.set_cons_succ])
              | (refine wpT_skip (List.getElem?_toArray.trans (by rfl)) (by rfl) ?_; simp only [Act.put, List.setIfInBounds_toArray, List.set_cons_zero, List.set_cons_succ])
            refine wpT_call (List.getElem?_toArray.trans (by rfl)) (by rfl) (fun K hK => ?_) ?_
            · skip
              have hcy := Ext.cell hy
              have hfy := Ext.froz hy
              go_simp
              first | (refine hK _ _ ?_ ?_; (focus ((repeat (first | (with_reducible exact But.refl _ _) | assumption | (with_reducible refine But.drew ?_) | (with_reducible refine But.drewL ?_) | (with_reducible refine But.setCell ?_ ?_ _; rotate_left; (focus (simp; done))) | (with_reducible refine But.setCellL ?_ ?_; rotate_left; (focus (simp; done))) | (with_reducible refine But.alloc2 ?_ ?_; rotate_left; (focus (simp [World.setCell]; done))) | (with_reducible refine But.allocL ?_ ?_ ?_; rotate_left; (focus (simp; done)); (focus (simp; done))) | (with_reducible refine But.alloc ?_ _))); done))) | (refine hK undef _ ?_ ?_; (focus ((repeat (first | (with_reducible exact But.refl _ _) | assumption | (with_reducible refine But.drew ?_) | (with_reducible refine But.drewL ?_) | (with_reducible refine But.setCell ?_ ?_ _; rotate_left; (focus (simp; done))) | (with_reducible refine But.setCellL ?_ ?_; rotate_left; (focus (simp; done))) | (with_reducible refine But.alloc2 ?_ ?_; rotate_left; (focus (simp [World.setCell]; done))) | (with_reducible refine But.allocL ?_ ?_ ?_; rotate_left; (focus (simp; done)); (focus (simp; done))) | (with_reducible refine But.alloc ?_ _))); done)))
              clear hK
              intro hr
              replace hx := hx.trans hr
              clear hr
              try simp only [Act.put, List.setIfInBounds_toArray, List.set_cons_zero, List.set_cons_succ]
              refine wpT_done ?_
              go_wp2
              go_meet
              exact ⟨Hfin.out, Hrest.out⟩
            exact wpT_none
          exact wpT_none
        exact wpT_none
      exact wpT_none
    exact wpT_none
  case rest =>
    obtain ⟨⟨k3, r3⟩, k1, k2, k4, k5, k6, r1, r2, r4, r5, r6, hE⟩ := hcut
    clear m1 m2 m3 m4 n3 l3 q0 q1 qf0 qf1 lg3 Hfin Hrest
    have m1 := k1.cell
    have m2 := k2.cell
    have m3 := k3.cell
    have m4 := k4.cell
    have m5 := k5.cell
    have m6 := k6.cell
    have a0 := rd0 r1 (j := 0) (by omega) rfl
    have a1 := rd0 r1 (j := 1) (by omega) rfl
    have a2 := rd0 r1 (j := 2) (by omega) rfl
    have a3 := rd0 r1 (j := 3) (by omega) rfl
    have b0 := rd0 r2 (j := 0) (by omega) rfl
    have b1 := rd0 r2 (j := 1) (by omega) rfl
    have b2 := rd0 r2 (j := 2) (by omega) rfl
    have b3 := rd0 r2 (j := 3) (by omega) rfl
    have b7 := rd0 r2 (j := 7) (by omega) rfl
    have b8 := rd0 r2 (j := 8) (by omega) rfl
    have hp := pct_eq (i := 1 + i) (by omega)
    rw [show ((1 + i : Nat) : Int) = 1 + (i : Int) by omega] at hp
    have hz := zero_eq
    generalize pctX (1 + (i : Int)) = X at *
    have heq := fun W => eq_rule X 0 1 1 W hp
    have lm := k1.lt
    have la := cell_lt a0
    have lb := cell_lt b0
    go_upto_region 11 with fail
    refine wp_region_ext [(true, 0), (true, 1), (true, 2), (true, 3), (true, 4), (true, 5), (true, 6), (true, 7), (true, 8), (true, 9), (true, 10), (true, 11), (true, 12), (true, 13), (true, 14), (true, 15), (true, 16), (true, 17), (true, 18), (true, 19), (true, 20), (true, 21), (true, 22), (true, 23), (true, 24), (true, 25), (true, 26), (true, 27), (false, 28), (true, 29), (true, 30), (true, 31), (true, 32), (false, 33), (true, 34), (true, 35), (false, 36), (true, 37), (true, 38)] Try.mixed (by kernel_rfl) (by simp only [pick, List.filterMap_cons, List.filterMap_nil, List.getElem?_toArray, List.getElem?_cons_succ, List.getElem?_cons_zero, Option.map_some]; rfl) ?_
    intro hx
    repeat (first
      | (refine wpL_take hx (v := ?_) (by rfl) (fun _ hc => ?_) ?_
         rotate_left
         focus (go_simp; (try go_ints); exact rfl)
         simp only [Act.put, List.setIfInBounds_toArray, List.set_cons_zero, List.set_cons_succ])
      | (refine wpL_skip (by rfl) ?_; simp only [Act.put, List.setIfInBounds_toArray, List.set_cons_zero, List.set_cons_succ])
      | (refine wpL_call (by rfl) (fun K hK => ?_); go_simp; go_at_call 11; refine (same_any _ _ _ _ _ _ _ _ _ (by first | exact r3.ext (by (repeat (first | (with_reducible exact Ext.refl _) | assumption | (with_reducible refine Ext.alloc ?_ _) | (with_reducible refine Ext.drew ?_) | (with_reducible refine Ext.drewL ?_) | refine Ext.trans ?_ (by assumption)))) | exact r5.ext (by (repeat (first | (with_reducible exact Ext.refl _) | assumption | (with_reducible refine Ext.alloc ?_ _) | (with_reducible refine Ext.drew ?_) | (with_reducible refine Ext.drewL ?_) | refine Ext.trans ?_ (by assumption))))) (by first | exact r4.ext (by (repeat (first | (with_reducible exact Ext.refl _) | assumption | (with_reducible refine Ext.alloc ?_ _) | (with_reducible refine Ext.drew ?_) | (with_reducible refine Ext.drewL ?_) | refine Ext.trans ?_ (by assumption)))) | exact r6.ext (by (repeat (first | (with_reducible exact Ext.refl _) | assumption | (with_reducible refine Ext.alloc ?_ _) | (with_reducible refine Ext.drew ?_) | (with_reducible refine Ext.drewL ?_) | refine Ext.trans ?_ (by assumption))))) (by rfl) (by omega)).mono ?_; rintro e w1 ⟨rfl, hE7⟩; refine hK _ _ (hE7) ?_; clear hK; intro hr; replace hx := hx.trans hr; clear hr; simp only [Act.put, List.setIfInBounds_toArray, List.set_cons_zero, List.set_cons_succ])
      | (refine wpL_call (by rfl) (fun K hK => ?_); go_simp; go_at_call 12; refine (awake_any _).mono ?_; rintro e w1 ⟨rfl, hE8⟩; refine hK _ _ (hE8) ?_; clear hK; intro hr; replace hx := hx.trans hr; clear hr; simp only [Act.put, List.setIfInBounds_toArray, List.set_cons_zero, List.set_cons_succ])
      | (refine wpL_call (by rfl) (fun K hK => ?_); go_simp; (first | (refine hK _ _ ?_ ?_; (focus ((repeat (first | (with_reducible exact Ext.refl _) | assumption | (with_reducible refine Ext.alloc ?_ _) | (with_reducible refine Ext.drew ?_) | (with_reducible refine Ext.drewL ?_) | refine Ext.trans ?_ (by assumption))); done))) | (refine hK undef _ ?_ ?_; (focus ((repeat (first | (with_reducible exact Ext.refl _) | assumption | (with_reducible refine Ext.alloc ?_ _) | (with_reducible refine Ext.drew ?_) | (with_reducible refine Ext.drewL ?_) | refine Ext.trans ?_ (by assumption))); done)))); clear hK; intro hr; replace hx := hx.trans hr; clear hr; try simp only [Act.put, List.setIfInBounds_toArray, List.set_cons_zero, List.set_cons_succ]))
    refine wpL_end ?_
    go_wp2
    go_ret
    exact ⟨rfl, by (repeat (first | (with_reducible exact Ext.refl _) | assumption | (with_reducible refine Ext.alloc ?_ _) | (with_reducible refine Ext.drew ?_) | (with_reducible refine Ext.drewL ?_) | refine Ext.trans ?_ (by assumption)))⟩
end Go.Proofs.Ytkioemeohofpcaa
