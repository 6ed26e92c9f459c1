/- The walk of the reference's Do: a handle is dropped. Conditions: the ranges that each theorem states. -/
import Derived.Test.YtamghjilcfeheaaKK
namespace Go.Proofs.Ytamghjilcfeheaa
open Go.RowKit Go.Draw


set_option maxRecDepth 100000 in
set_option maxHeartbeats 2000000 in
theorem do27_7 (v : Value) (g : Gr) (b d : Int) (i m : Nat) (x : List Int × List Int) (w : World) {S : List Nat} (hSb : ∀ x ∈ S, x < w.heap.size) (hg0 : GRx S w v g) (hv : Vld g) (hb : Bd g) (hi : i < 32) (hu : g.us[i]? = some true) (hr : g.rs[i]? = some (m : Int)) (hx0 : g.ns[m]? = some x) :
    Calls Try.prog 27 #[v, .agg #[.int .i64 7, .int .i64 ((i : Int) + 1), .int .i64 b, .int .i64 d]] w (RetDo S w (accT g m 7 ((i : Int) + 1) b d)) := by
  have ht : accT g m 7 ((i : Int) + 1) b d = (⟨g.ns, g.us.set i false, g.rs.set i (-1)⟩, 0, 0) := by simp [accT]
  rw [ht]
  clear ht
  have hg := hg0.rd
  have hlu := Lib.hid hv.lu
  have hlr := Lib.hid hv.lr
  have ha0 := hErr_in g i true true hi hu
  have ha1 : (hErr g ((i : Int) + 1) true == 0) = true := by rw [ha0]; rfl
  have ha2 : (hErr g ((i : Int) + 1) true != 0) = false := by rw [ha0]; rfl
  have hm := (List.getElem?_eq_some_iff.1 hx0).1
  have hmb : (m : Int) < g.ns.length := by omega
  have hn := hv.nd m x hx0
  have hn1 := hn.1
  have hn2 := hn.2.1
  have Hr := Lib.hid hr
  have Hx := Lib.hid hx0
  have Hn := Lib.hid hn
  have Hu := Lib.hid hu
  have b1 : (i : Int) + 1 - 1 = i := by omega
  clear ha0 hv hu hr hx0 hn
  obtain ⟨A0, a0, B0, b0, C0, c0, rfl⟩ := hg.sl
  go_enter Try.func27, Try.ntmps27
  go_upto_region 2 with (go_at_call 32; refine (copy_any _ g _ (hg.ext (by (repeat (first | (with_reducible exact Ext.refl _) | assumption | (with_reducible refine Ext.alloc ?_ _) | (with_reducible refine Ext.drew ?_) | (with_reducible refine Ext.drewL ?_) | refine Ext.trans ?_ (by assumption))))) hb).mono ?_; rintro e w1 ⟨vA, vB, vC, qs, rfl, hG, hE1⟩; obtain ⟨A1, a1, rfl⟩ := own_slice hG.nodes; obtain ⟨B1, b1, rfl⟩ := own_slice hG.used; obtain ⟨C1, c1, rfl⟩ := own_slice hG.roots; have kO : Blk (w1.alloc (.cells #[.slice none 0 0, .slice none 0 0, .slice none 0 0] 26)) w1.heap.size 26 #[.slice none 0 0, .slice none 0 0, .slice none 0 0] := Blk.new rfl; have cO := kO.cell; have fO := kO.froz)
  clear kO cO fO
  have hS := do_start hg hE1 hG
  clear hE1 hG hg
  obtain ⟨k2, k3, k4, k5, kO, hG, hg, hE, hlo, hhi⟩ := hS
  generalize hW : w1.alloc (.cells #[.slice A1 g.ns.length a1, .slice B1 g.us.length b1, .slice C1 g.rs.length c1] 26) = W at *
  clear hW
  generalize w1.heap.size = o at *
  clear w1
  have m2 := k2.cell
  have m3 := k3.cell
  have mO := kO.cell
  have f4 := k4.froz
  have f5 := k5.froz
  have n4 : w.heap.size + 1 + 1 ≠ o := by omega
  have n5 : w.heap.size + 1 + 1 + 1 ≠ o := by omega
  obtain ⟨ba, oa, R, cR, D, cD, rfl, q0, q1, hR, hD, lq⟩ := hg0.rd.node Hx.out
  replace q0 := cell_ext hE q0
  replace q1 := cell_ext hE q1
  go_upto_region 41 with (first | (go_at_call 35; refine (handle_any _ g _ _ _ (hg.ext (by (repeat (first | (with_reducible exact Ext.refl _) | assumption | (with_reducible refine Ext.alloc ?_ _) | (with_reducible refine Ext.drew ?_) | (with_reducible refine Ext.drewL ?_) | refine Ext.trans ?_ (by assumption))))) hlu.out).mono ?_; rintro e w1 ⟨rfl, hE3⟩; have hE4 : Ext W w1 := (by (repeat (first | (with_reducible exact Ext.refl _) | assumption | (with_reducible refine Ext.alloc ?_ _) | (with_reducible refine Ext.drew ?_) | (with_reducible refine Ext.drewL ?_) | refine Ext.trans ?_ (by assumption)))); have m2' := (k2.ext hE4).cell; have m3' := (k3.ext hE4).cell; have mO' := (kO.ext hE4).cell))
  obtain ⟨W5, rfl⟩ : ∃ W5, W5 = w1 := ⟨_, rfl⟩
  have hE5 : Ext W W5 := (by (repeat (first | (with_reducible exact Ext.refl _) | assumption | (with_reducible refine Ext.alloc ?_ _) | (with_reducible refine Ext.drew ?_) | (with_reducible refine Ext.drewL ?_) | refine Ext.trans ?_ (by assumption))))
  have q0' := cell_ext hE5 q0
  have q1' := cell_ext hE5 q1
  have lq' := cell_lt q0'
  have z5 := hE5.size_le
  have l2 := (k2.ext hE5).lt
  have l3 := (k3.ext hE5).lt
  go_cut [13] (fun t wx => ∃ q, t = .pointer (some ⟨q, 0, none⟩) ∧ Blk wx q 49 #[.slice R x.1.length cR, .slice D x.2.length cD] ∧ Ext W wx ∧ W.heap.size ≤ q)
  case first =>
    refine wp_region_treeN (W5.heap.size) [] (.take 0 (.take 1 (.take 2 (.take 3 (.take 4 (.alt 5 (.take 6 (.take 7 (.alt 8 (.alt 9 .done .none) .none))) (.alt 8 (.alt 5 (.take 6 (.take 7 (.alt 9 .done .none))) .none) .none))))))) Try.mixed (by kernel_rfl) ?_
    intro hx
    first
      | (refine wpT_takeN hx (by simp) (v := ?_) (List.getElem?_toArray.trans (by rfl)) (by rfl) (fun _ hc => ?_) ?_
         rotate_left
         focus (go_simp; (try go_ints); exact rfl)
         simp only [Act.put, List.setIfInBounds_toArray, List.set_cons_zero, List.set_cons_succ])
      | (refine wpT_skip (List.getElem?_toArray.trans (by rfl)) (by rfl) ?_; simp only [Act.put, List.setIfInBounds_toArray, List.set_cons_zero, List.set_cons_succ])
    first
      | (refine wpT_takeN hx (by simp) (v := ?_) (List.getElem?_toArray.trans (by rfl)) (by rfl) (fun _ hc => ?_) ?_
         rotate_left
         focus (go_simp; (try go_ints); exact rfl)
         simp only [Act.put, List.setIfInBounds_toArray, List.set_cons_zero, List.set_cons_succ])
      | (refine wpT_skip (List.getElem?_toArray.trans (by rfl)) (by rfl) ?_; simp only [Act.put, List.setIfInBounds_toArray, List.set_cons_zero, List.set_cons_succ])
    first
      | (refine wpT_takeN hx (by simp) (v := ?_) (List.getElem?_toArray.trans (by rfl)) (by rfl) (fun _ hc => ?_) ?_
         rotate_left
         focus (go_simp; (try go_ints); exact rfl)
         simp only [Act.put, List.setIfInBounds_toArray, List.set_cons_zero, List.set_cons_succ])
      | (refine wpT_skip (List.getElem?_toArray.trans (by rfl)) (by rfl) ?_; simp only [Act.put, List.setIfInBounds_toArray, List.set_cons_zero, List.set_cons_succ])
    first
      | (refine wpT_takeN hx (by simp) (v := ?_) (List.getElem?_toArray.trans (by rfl)) (by rfl) (fun _ hc => ?_) ?_
         rotate_left
         focus (go_simp; (try go_ints); exact rfl)
         simp only [Act.put, List.setIfInBounds_toArray, List.set_cons_zero, List.set_cons_succ])
      | (refine wpT_skip (List.getElem?_toArray.trans (by rfl)) (by rfl) ?_; simp only [Act.put, List.setIfInBounds_toArray, List.set_cons_zero, List.set_cons_succ])
    first
      | (refine wpT_takeN hx (by simp) (v := ?_) (List.getElem?_toArray.trans (by rfl)) (by rfl) (fun _ hc => ?_) ?_
         rotate_left
         focus (go_simp; (try go_ints); exact rfl)
         simp only [Act.put, List.setIfInBounds_toArray, List.set_cons_zero, List.set_cons_succ])
      | (refine wpT_skip (List.getElem?_toArray.trans (by rfl)) (by rfl) ?_; simp only [Act.put, List.setIfInBounds_toArray, List.set_cons_zero, List.set_cons_succ])
    refine wpT_call (List.getElem?_toArray.trans (by rfl)) (by rfl) (fun K hK => ?_) ?_
    · skip
      go_simp
      go_at_call 36
      refine (node36_to _ g i m _ (hg.ext (hE5.trans (ext_bel hx))) hlr.out hi Hr.out).mono ?_
      rintro e w1 ⟨rfl, hE1⟩; have hz1 := hE1.size_le; (try simp at hz1); (try (replace hk5 := hk5.ext hE1))
      refine hK _ _ ((hE1).bel _) ?_
      clear hK
      intro hr
      replace hx := hx.trans hr
      clear hr
      try simp only [Act.put, List.setIfInBounds_toArray, List.set_cons_zero, List.set_cons_succ]
      first
        | (refine wpT_takeN hx (by simp) (v := ?_) (List.getElem?_toArray.trans (by rfl)) (by rfl) (fun _ hc => ?_) ?_
           rotate_left
           focus (go_simp; (try go_ints); exact rfl)
           simp only [Act.put, List.setIfInBounds_toArray, List.set_cons_zero, List.set_cons_succ])
        | (refine wpT_skip (List.getElem?_toArray.trans (by rfl)) (by rfl) ?_; simp only [Act.put, List.setIfInBounds_toArray, List.set_cons_zero, List.set_cons_succ])
      first
        | (refine wpT_takeN hx (by simp) (v := ?_) (List.getElem?_toArray.trans (by rfl)) (by rfl) (fun _ hc => ?_) ?_
           rotate_left
           focus (go_simp; (try go_ints); exact rfl)
           simp only [Act.put, List.setIfInBounds_toArray, List.set_cons_zero, List.set_cons_succ])
        | (refine wpT_skip (List.getElem?_toArray.trans (by rfl)) (by rfl) ?_; simp only [Act.put, List.setIfInBounds_toArray, List.set_cons_zero, List.set_cons_succ])
      refine wpT_call (List.getElem?_toArray.trans (by rfl)) (by rfl) (fun K hK => ?_) ?_
      · skip
        
        go_simp
        first | (refine hK _ _ ?_ ?_; (focus ((repeat (first | (with_reducible exact Bel.refl _ _ _) | assumption | (with_reducible exact Bel.alloc1 (by first | assumption | omega | (simp; omega))) | (with_reducible refine Bel.drew ?_) | (with_reducible refine Bel.drewL ?_) | (with_reducible refine Bel.setCell ?_ ?_ _; rotate_left; (focus (first | omega | (simp; done) | (simp; omega)))) | (with_reducible refine Bel.alloc ?_ _))); done))) | (refine hK undef _ ?_ ?_; (focus ((repeat (first | (with_reducible exact Bel.refl _ _ _) | assumption | (with_reducible exact Bel.alloc1 (by first | assumption | omega | (simp; omega))) | (with_reducible refine Bel.drew ?_) | (with_reducible refine Bel.drewL ?_) | (with_reducible refine Bel.setCell ?_ ?_ _; rotate_left; (focus (first | omega | (simp; done) | (simp; omega)))) | (with_reducible refine Bel.alloc ?_ _))); done)))
        clear hK
        intro hr
        (try have hk5 := blk_of_bel hr); (try have hk5 := blk_of_bel2 hr)
        replace hx := hx.trans hr
        clear hr
        try simp only [Act.put, List.setIfInBounds_toArray, List.set_cons_zero, List.set_cons_succ]
        refine wpT_store (List.getElem?_toArray.trans (by rfl)) rfl (by rfl) (fun K hK => ?_) ?_
        · skip
          try (have hc5 := hk5.cell; have hf5 := hk5.froz)
          go_simp
          refine hK _ ?_ ?_
          focus ((repeat (first | (with_reducible exact Bel.refl _ _ _) | assumption | (with_reducible exact Bel.alloc1 (by first | assumption | omega | (simp; omega))) | (with_reducible refine Bel.drew ?_) | (with_reducible refine Bel.drewL ?_) | (with_reducible refine Bel.setCell ?_ ?_ _; rotate_left; (focus (first | omega | (simp; done) | (simp; omega)))) | (with_reducible refine Bel.alloc ?_ _))); done)
          clear hK
          intro hr
          replace hx := hx.trans hr
          clear hr
          try simp only [Act.put, List.setIfInBounds_toArray, List.set_cons_zero, List.set_cons_succ]
          refine wpT_done ?_
          go_wp2
          go_meet
          refine ⟨_, rfl, ?_, hE5.trans (ext_bel hx), by (first | omega | (simp; done) | (simp; omega))⟩
          first
            | exact Blk.new rfl
            | exact (hk5.set_ 0 _).set_ 1 _
        exact wpT_none
      exact wpT_none
    refine wpT_call (List.getElem?_toArray.trans (by rfl)) (by rfl) (fun K hK => ?_) ?_
    · skip
      
      go_simp
      first | (refine hK _ _ ?_ ?_; (focus ((repeat (first | (with_reducible exact Bel.refl _ _ _) | assumption | (with_reducible exact Bel.alloc1 (by first | assumption | omega | (simp; omega))) | (with_reducible refine Bel.drew ?_) | (with_reducible refine Bel.drewL ?_) | (with_reducible refine Bel.setCell ?_ ?_ _; rotate_left; (focus (first | omega | (simp; done) | (simp; omega)))) | (with_reducible refine Bel.alloc ?_ _))); done))) | (refine hK undef _ ?_ ?_; (focus ((repeat (first | (with_reducible exact Bel.refl _ _ _) | assumption | (with_reducible exact Bel.alloc1 (by first | assumption | omega | (simp; omega))) | (with_reducible refine Bel.drew ?_) | (with_reducible refine Bel.drewL ?_) | (with_reducible refine Bel.setCell ?_ ?_ _; rotate_left; (focus (first | omega | (simp; done) | (simp; omega)))) | (with_reducible refine Bel.alloc ?_ _))); done)))
      clear hK
      intro hr
      (try have hk5 := blk_of_bel hr); (try have hk5 := blk_of_bel2 hr)
      replace hx := hx.trans hr
      clear hr
      try simp only [Act.put, List.setIfInBounds_toArray, List.set_cons_zero, List.set_cons_succ]
      refine wpT_call (List.getElem?_toArray.trans (by rfl)) (by rfl) (fun K hK => ?_) ?_
      · skip
        go_simp
        go_at_call 36
        refine (node36_to _ g i m _ (hg.ext (hE5.trans (ext_bel hx))) hlr.out hi Hr.out).mono ?_
        rintro e w1 ⟨rfl, hE1⟩; have hz1 := hE1.size_le; (try simp at hz1); (try (replace hk5 := hk5.ext hE1))
        refine hK _ _ ((hE1).bel _) ?_
        clear hK
        intro hr
        replace hx := hx.trans hr
        clear hr
        try simp only [Act.put, List.setIfInBounds_toArray, List.set_cons_zero, List.set_cons_succ]
        first
          | (refine wpT_takeN hx (by simp) (v := ?_) (List.getElem?_toArray.trans (by rfl)) (by rfl) (fun _ hc => ?_) ?_
             rotate_left
             focus (go_simp; (try go_ints); exact rfl)
             simp only [Act.put, List.setIfInBounds_toArray, List.set_cons_zero, List.set_cons_succ])
          | (refine wpT_skip (List.getElem?_toArray.trans (by rfl)) (by rfl) ?_; simp only [Act.put, List.setIfInBounds_toArray, List.set_cons_zero, List.set_cons_succ])
        first
          | (refine wpT_takeN hx (by simp) (v := ?_) (List.getElem?_toArray.trans (by rfl)) (by rfl) (fun _ hc => ?_) ?_
             rotate_left
             focus (go_simp; (try go_ints); exact rfl)
             simp only [Act.put, List.setIfInBounds_toArray, List.set_cons_zero, List.set_cons_succ])
          | (refine wpT_skip (List.getElem?_toArray.trans (by rfl)) (by rfl) ?_; simp only [Act.put, List.setIfInBounds_toArray, List.set_cons_zero, List.set_cons_succ])
        refine wpT_store (List.getElem?_toArray.trans (by rfl)) rfl (by rfl) (fun K hK => ?_) ?_
        · skip
          try (have hc5 := hk5.cell; have hf5 := hk5.froz)
          go_simp
          refine hK _ ?_ ?_
          focus ((repeat (first | (with_reducible exact Bel.refl _ _ _) | assumption | (with_reducible exact Bel.alloc1 (by first | assumption | omega | (simp; omega))) | (with_reducible refine Bel.drew ?_) | (with_reducible refine Bel.drewL ?_) | (with_reducible refine Bel.setCell ?_ ?_ _; rotate_left; (focus (first | omega | (simp; done) | (simp; omega)))) | (with_reducible refine Bel.alloc ?_ _))); done)
          clear hK
          intro hr
          replace hx := hx.trans hr
          clear hr
          try simp only [Act.put, List.setIfInBounds_toArray, List.set_cons_zero, List.set_cons_succ]
          refine wpT_done ?_
          go_wp2
          go_meet
          refine ⟨_, rfl, ?_, hE5.trans (ext_bel hx), by (first | omega | (simp; done) | (simp; omega))⟩
          first
            | exact Blk.new rfl
            | exact (hk5.set_ 0 _).set_ 1 _
        exact wpT_none
      exact wpT_none
    exact wpT_none
  case rest =>
    obtain ⟨q, rfl, kq, hEq, hq⟩ := hcut
    have K2 := k2.ext hEq
    have K3 := k3.ext hEq
    have K4 := k4.ext hEq
    have K5 := k5.ext hEq
    have KO := kO.ext hEq
    have HG := hG.ext hEq
    have HE := hE.trans hEq
    have lt5 := k5.lt
    have lt2 := K2.lt
    have lt3 := K3.lt
    have lt4 := K4.lt
    have ltO := KO.lt
    have ltq := kq.lt
    have e1 : q ≠ w.heap.size + 1 + 1 := by omega
    have e2 : q ≠ w.heap.size + 1 + 1 + 1 := by omega
    have e3 : q ≠ o := by omega
    have e4 : o ≠ w.heap.size + 1 + 1 := by omega
    have e5 : o ≠ w.heap.size + 1 + 1 + 1 := by omega
    have e6 : w.heap.size + 1 ≠ o := by omega
    have e7 : w.heap.size ≠ o := by omega
    clear q0' q1' lq' z5 l2 l3 hE5
    have C2 := K2.cell
    have C3 := K3.cell
    have C4 := K4.cell
    have C5 := K5.cell
    have CO := KO.cell
    have Cq := kq.cell
    have F4 := K4.froz
    have F5 := K5.froz
    obtain ⟨bB, bC, rfl, rfl, t1, t2, t3, t4, t5⟩ := HG.tabs (by have := hlu.out; omega) (by have := hlr.out; omega)
    obtain ⟨cB, fB⟩ := own_cells HG.used
    obtain ⟨cC, fC⟩ := own_cells HG.roots
    have cBi := cB i _ (vb_at Hu.out)
    have cCi := cC i _ (ints_at Hr.out)
    have i1 : i < g.us.length := by have := hlu.out; omega
    have i2 : (i : Int) < g.us.length := by omega
    have i3 : i < g.rs.length := by have := hlr.out; omega
    have i4 : (i : Int) < g.rs.length := by omega
    have t6 : bC ≠ bB := fun e => t1 e.symm
    have d1 : o ≠ bB := fun e => t2 e.symm
    have d2 : o ≠ bC := fun e => t3 e.symm
    have d3 : w.heap.size + 1 ≠ bB := by omega
    have d4 : w.heap.size + 1 ≠ bC := by omega
    have d5 : w.heap.size + 1 + 1 ≠ bB := by omega
    have d6 : w.heap.size + 1 + 1 ≠ bC := by omega
    have d7 : w.heap.size + 1 + 1 + 1 ≠ bB := by omega
    have d8 : w.heap.size + 1 + 1 + 1 ≠ bC := by omega
    clear cB cC
    go_wp2_with fail
    refine wp_region_treeB [bB, bC] (.take 0 (.take 1 (.take 2 (.take 3 (.take 4 (.take 5 (.take 6 (.take 7 (.take 8 (.take 9 (.take 10 (.alt 11 (.take 12 (.alt 13 .done .none)) .none)))))))))))) Try.mixed (by kernel_rfl) ?_
    intro hx hy
    first
      | (refine wpT_takeB hx (v := ?_) (List.getElem?_toArray.trans (by rfl)) (by rfl) (fun _ hc => ?_) ?_
         rotate_left
         focus (go_simp; (try go_ints); exact rfl)
         simp only [Act.put, List.setIfInBounds_toArray, List.set_cons_zero, List.set_cons_succ])
      | (refine wpT_skip (List.getElem?_toArray.trans (by rfl)) (by rfl) ?_; simp only [Act.put, List.setIfInBounds_toArray, List.set_cons_zero, List.set_cons_succ])
    first
      | (refine wpT_takeB hx (v := ?_) (List.getElem?_toArray.trans (by rfl)) (by rfl) (fun _ hc => ?_) ?_
         rotate_left
         focus (go_simp; (try go_ints); exact rfl)
         simp only [Act.put, List.setIfInBounds_toArray, List.set_cons_zero, List.set_cons_succ])
      | (refine wpT_skip (List.getElem?_toArray.trans (by rfl)) (by rfl) ?_; simp only [Act.put, List.setIfInBounds_toArray, List.set_cons_zero, List.set_cons_succ])
    first
      | (refine wpT_takeB hx (v := ?_) (List.getElem?_toArray.trans (by rfl)) (by rfl) (fun _ hc => ?_) ?_
         rotate_left
         focus (go_simp; (try go_ints); exact rfl)
         simp only [Act.put, List.setIfInBounds_toArray, List.set_cons_zero, List.set_cons_succ])
      | (refine wpT_skip (List.getElem?_toArray.trans (by rfl)) (by rfl) ?_; simp only [Act.put, List.setIfInBounds_toArray, List.set_cons_zero, List.set_cons_succ])
    first
      | (refine wpT_takeB hx (v := ?_) (List.getElem?_toArray.trans (by rfl)) (by rfl) (fun _ hc => ?_) ?_
         rotate_left
         focus (go_simp; (try go_ints); exact rfl)
         simp only [Act.put, List.setIfInBounds_toArray, List.set_cons_zero, List.set_cons_succ])
      | (refine wpT_skip (List.getElem?_toArray.trans (by rfl)) (by rfl) ?_; simp only [Act.put, List.setIfInBounds_toArray, List.set_cons_zero, List.set_cons_succ])
    first
      | (refine wpT_takeB hx (v := ?_) (List.getElem?_toArray.trans (by rfl)) (by rfl) (fun _ hc => ?_) ?_
         rotate_left
         focus (go_simp; (try go_ints); exact rfl)
         simp only [Act.put, List.setIfInBounds_toArray, List.set_cons_zero, List.set_cons_succ])
      | (refine wpT_skip (List.getElem?_toArray.trans (by rfl)) (by rfl) ?_; simp only [Act.put, List.setIfInBounds_toArray, List.set_cons_zero, List.set_cons_succ])
    first
      | (refine wpT_takeB hx (v := ?_) (List.getElem?_toArray.trans (by rfl)) (by rfl) (fun _ hc => ?_) ?_
         rotate_left
         focus (go_simp; (try go_ints); exact rfl)
         simp only [Act.put, List.setIfInBounds_toArray, List.set_cons_zero, List.set_cons_succ])
      | (refine wpT_skip (List.getElem?_toArray.trans (by rfl)) (by rfl) ?_; simp only [Act.put, List.setIfInBounds_toArray, List.set_cons_zero, List.set_cons_succ])
    first
      | (refine wpT_takeB hx (v := ?_) (List.getElem?_toArray.trans (by rfl)) (by rfl) (fun _ hc => ?_) ?_
         rotate_left
         focus (go_simp; (try go_ints); exact rfl)
         simp only [Act.put, List.setIfInBounds_toArray, List.set_cons_zero, List.set_cons_succ])
      | (refine wpT_skip (List.getElem?_toArray.trans (by rfl)) (by rfl) ?_; simp only [Act.put, List.setIfInBounds_toArray, List.set_cons_zero, List.set_cons_succ])
    first
      | (refine wpT_takeB hx (v := ?_) (List.getElem?_toArray.trans (by rfl)) (by rfl) (fun _ hc => ?_) ?_
         rotate_left
         focus (go_simp; (try go_ints); exact rfl)
         simp only [Act.put, List.setIfInBounds_toArray, List.set_cons_zero, List.set_cons_succ])
      | (refine wpT_skip (List.getElem?_toArray.trans (by rfl)) (by rfl) ?_; simp only [Act.put, List.setIfInBounds_toArray, List.set_cons_zero, List.set_cons_succ])
    first
      | (refine wpT_takeB hx (v := ?_) (List.getElem?_toArray.trans (by rfl)) (by rfl) (fun _ hc => ?_) ?_
         rotate_left
         focus (go_simp; (try go_ints); exact rfl)
         simp only [Act.put, List.setIfInBounds_toArray, List.set_cons_zero, List.set_cons_succ])
      | (refine wpT_skip (List.getElem?_toArray.trans (by rfl)) (by rfl) ?_; simp only [Act.put, List.setIfInBounds_toArray, List.set_cons_zero, List.set_cons_succ])
    first
      | (refine wpT_takeB hx (v := ?_) (List.getElem?_toArray.trans (by rfl)) (by rfl) (fun _ hc => ?_) ?_
         rotate_left
         focus (go_simp; (try go_ints); exact rfl)
         simp only [Act.put, List.setIfInBounds_toArray, List.set_cons_zero, List.set_cons_succ])
      | (refine wpT_skip (List.getElem?_toArray.trans (by rfl)) (by rfl) ?_; simp only [Act.put, List.setIfInBounds_toArray, List.set_cons_zero, List.set_cons_succ])
    first
      | (refine wpT_takeB hx (v := ?_) (List.getElem?_toArray.trans (by rfl)) (by rfl) (fun _ hc => ?_) ?_
         rotate_left
         focus (go_simp; (try go_ints); exact rfl)
         simp only [Act.put, List.setIfInBounds_toArray, List.set_cons_zero, List.set_cons_succ])
      | (refine wpT_skip (List.getElem?_toArray.trans (by rfl)) (by rfl) ?_; simp only [Act.put, List.setIfInBounds_toArray, List.set_cons_zero, List.set_cons_succ])
    refine wpT_store (List.getElem?_toArray.trans (by rfl)) rfl (by rfl) (fun K hK => ?_) ?_
    · skip
      have hcy := Ext.cell hy
      have hfy := Ext.froz hy
      go_simp
      refine hK _ ?_ ?_
      focus ((repeat (first | (with_reducible exact But.refl _ _) | assumption | (with_reducible refine But.drew ?_) | (with_reducible refine But.drewL ?_) | (with_reducible refine But.setCell ?_ ?_ _; rotate_left; (focus (simp; done))) | (with_reducible refine But.setCellL ?_ ?_; rotate_left; (focus (simp; done))) | (with_reducible refine But.alloc2 ?_ ?_; rotate_left; (focus (simp [World.setCell]; done))) | (with_reducible refine But.allocL ?_ ?_ ?_; rotate_left; (focus (simp; done)); (focus (simp; done))) | (with_reducible refine But.alloc ?_ _))); done)
      clear hK
      intro hr
      replace hx := hx.trans hr
      clear hr
      try simp only [Act.put, List.setIfInBounds_toArray, List.set_cons_zero, List.set_cons_succ]
      first
        | (refine wpT_takeB hx (v := ?_) (List.getElem?_toArray.trans (by rfl)) (by rfl) (fun _ hc => ?_) ?_
           rotate_left
           focus (go_simp; (try go_ints); exact rfl)
           simp only [Act.put, List.setIfInBounds_toArray, List.set_cons_zero, List.set_cons_succ])
        | (refine wpT_skip (List.getElem?_toArray.trans (by rfl)) (by rfl) ?_; simp only [Act.put, List.setIfInBounds_toArray, List.set_cons_zero, List.set_cons_succ])
      refine wpT_store (List.getElem?_toArray.trans (by rfl)) rfl (by rfl) (fun K hK => ?_) ?_
      · skip
        have hcy := Ext.cell hy
        have hfy := Ext.froz hy
        go_simp
        refine hK _ ?_ ?_
        focus ((repeat (first | (with_reducible exact But.refl _ _) | assumption | (with_reducible refine But.drew ?_) | (with_reducible refine But.drewL ?_) | (with_reducible refine But.setCell ?_ ?_ _; rotate_left; (focus (simp; done))) | (with_reducible refine But.setCellL ?_ ?_; rotate_left; (focus (simp; done))) | (with_reducible refine But.alloc2 ?_ ?_; rotate_left; (focus (simp [World.setCell]; done))) | (with_reducible refine But.allocL ?_ ?_ ?_; rotate_left; (focus (simp; done)); (focus (simp; done))) | (with_reducible refine But.alloc ?_ _))); done)
        clear hK
        intro hr
        replace hx := hx.trans hr
        clear hr
        try simp only [Act.put, List.setIfInBounds_toArray, List.set_cons_zero, List.set_cons_succ]
        refine wpT_done ?_
        go_wp2
        have K4' := (K4.far (p := ⟨bB, i, none⟩) d5 (.bool false)).far (p := ⟨bC, i, none⟩) d6 (.int .i64 (-1))
        have K5' := (K5.far (p := ⟨bB, i, none⟩) d7 (.bool false)).far (p := ⟨bC, i, none⟩) d8 (.int .i64 (-1))
        have HG' := (HG.setU rfl i false).setC rfl i (-1)
        have HE' := Ext.setCell (Ext.setCell HE (p := ⟨bB, i, none⟩) (by show w.heap.size ≤ bB; omega) (.bool false)) (p := ⟨bC, i, none⟩) (by show w.heap.size ≤ bC; omega) (.int .i64 (-1))
        obtain ⟨cF4, cF5⟩ := fin5 (n := w.heap.size) (.slice A1 g.ns.length a1) (.slice (some ⟨bB, 0, none⟩) g.us.length b1) (.slice (some ⟨bC, 0, none⟩) g.rs.length c1) (.int .i64 0) (.int .u64 (0)) (K4') (K5')
        exact bodyPost_ret (v := .tuple #[.agg #[.slice A1 g.ns.length a1, .slice (some ⟨bB, 0, none⟩) g.us.length b1, .slice (some ⟨bC, 0, none⟩) g.rs.length c1], .agg #[.int .i64 0, .int .u64 (0)]]) (by simp [results, Try.results27, go_sem, cF4, cF5]) rfl ⟨_, rfl, (own5 hSb (HG')).ext (Ext.drew (Ext.refl _)), Ext.drew (ext5 (HE'))⟩
      exact wpT_none
    exact wpT_none
end Go.Proofs.Ytamghjilcfeheaa
