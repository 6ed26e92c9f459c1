/- The walk of cloned. Conditions: the ranges that each theorem states. -/
import Derived.Test.YtamghjilcfeheaaE
namespace Go.Proofs.Ytamghjilcfeheaa
open Go.RowKit Go.Draw

set_option maxRecDepth 100000 in
set_option maxHeartbeats 1000000 in
theorem cloned_any (v : Value) (g : Gr) (w : World) (hg : GRd w v g) (hb : Bd g) : Calls Try.prog 28 #[v] w (RetG w g) := by
  obtain ⟨A, a, B, b, C, c, ps, rfl, h1, h2, h3, h4⟩ := hg
  have b1 := hb.2.1
  have b2 := hb.2.2.1
  have b3 := hb.1
  have Hb := Lib.hid hb.2.2.2
  clear hb
  go_enter Try.func28, Try.ntmps28
  go_upto_region 1 with fail
  have hX := Ext.alloc (Ext.alloc (Ext.refl w) (.cells #[.slice A g.ns.length a, .slice B g.us.length b, .slice C g.rs.length c] 26)) (.cells #[.slice none 0 0, .slice none 0 0, .slice none 0 0] 26)
  have k1 : Blk ((w.alloc (.cells #[.slice A g.ns.length a, .slice B g.us.length b, .slice C g.rs.length c] 26)).alloc (.cells #[.slice none 0 0, .slice none 0 0, .slice none 0 0] 26)) w.heap.size 26 #[.slice A g.ns.length a, .slice B g.us.length b, .slice C g.rs.length c] := Blk.alloc (Blk.new rfl) _
  have k2 : Blk ((w.alloc (.cells #[.slice A g.ns.length a, .slice B g.us.length b, .slice C g.rs.length c] 26)).alloc (.cells #[.slice none 0 0, .slice none 0 0, .slice none 0 0] 26)) (w.heap.size + 1) 26 #[.slice none 0 0, .slice none 0 0, .slice none 0 0] := Blk.new (by simp)
  generalize hW : (w.alloc (.cells #[.slice A g.ns.length a, .slice B g.us.length b, .slice C g.rs.length c] 26)).alloc (.cells #[.slice none 0 0, .slice none 0 0, .slice none 0 0] 26) = W at hX k1 k2 ⊢
  have hsz : w.heap.size + 2 ≤ W.heap.size := by rw [← hW]; simp
  clear hW
  replace h1 := h1.ext hX
  replace h2 := h2.ext hX
  replace h3 := h3.ext hX
  have m1 := k1.cell
  have l1 := k1.lt
  go_cut [3] (fun t wx => ∃ o vB vC, t = .pointer (some ⟨o, 0, none⟩) ∧ Blk wx o 26 #[.slice none 0 0, vB, vC] ∧ GOwn wx W.heap.size o (.slice none 0 0) vB vC [] ⟨[], g.us, g.rs⟩ ∧ Ext W wx ∧ W.heap.size ≤ o)
  case first =>
    
    refine wp_region_treeN (W.heap.size) [] (.take 0 (.take 1 (.take 3 (.take 4 (.alt 2 (.alt 5 (.take 6 (.alt 7 (.alt 8 .done .none) .none)) (.alt 7 (.alt 5 (.take 6 (.alt 8 .done .none)) .none) .none)) (.alt 7 (.alt 2 (.alt 5 (.take 6 (.alt 8 .done .none)) .none) .none) .none)))))) Try.mixed (by kernel_rfl) ?_
    intro hx
    first
      | (refine wpT_takeN hx (by simp) (v := ?_) (List.getElem?_toArray.trans (by rfl)) (by rfl) (fun _ hc => ?_) ?_
         rotate_left
         focus (go_simp; (try go_ints); exact rfl)
         simp only [Act.put, List.setIfInBounds_toArray, List.set_cons_zero, List.set_cons_succ])
      | (refine wpT_skip (List.getElem?_toArray.trans (by rfl)) (by rfl) ?_; simp only [Act.put, List.setIfInBounds_toArray, List.set_cons_zero, List.set_cons_succ])
    first
      | (refine wpT_takeN hx (by simp) (v := ?_) (List.getElem?_toArray.trans (by rfl)) (by rfl) (fun _ hc => ?_) ?_
         rotate_left
         focus (go_simp; (try go_ints); exact rfl)
         simp only [Act.put, List.setIfInBounds_toArray, List.set_cons_zero, List.set_cons_succ])
      | (refine wpT_skip (List.getElem?_toArray.trans (by rfl)) (by rfl) ?_; simp only [Act.put, List.setIfInBounds_toArray, List.set_cons_zero, List.set_cons_succ])
    first
      | (refine wpT_takeN hx (by simp) (v := ?_) (List.getElem?_toArray.trans (by rfl)) (by rfl) (fun _ hc => ?_) ?_
         rotate_left
         focus (go_simp; (try go_ints); exact rfl)
         simp only [Act.put, List.setIfInBounds_toArray, List.set_cons_zero, List.set_cons_succ])
      | (refine wpT_skip (List.getElem?_toArray.trans (by rfl)) (by rfl) ?_; simp only [Act.put, List.setIfInBounds_toArray, List.set_cons_zero, List.set_cons_succ])
    first
      | (refine wpT_takeN hx (by simp) (v := ?_) (List.getElem?_toArray.trans (by rfl)) (by rfl) (fun _ hc => ?_) ?_
         rotate_left
         focus (go_simp; (try go_ints); exact rfl)
         simp only [Act.put, List.setIfInBounds_toArray, List.set_cons_zero, List.set_cons_succ])
      | (refine wpT_skip (List.getElem?_toArray.trans (by rfl)) (by rfl) ?_; simp only [Act.put, List.setIfInBounds_toArray, List.set_cons_zero, List.set_cons_succ])
    refine wpT_call (List.getElem?_toArray.trans (by rfl)) (by rfl) (fun K hK => ?_) ?_
    · skip
      go_simp
      go_at_call 37
      refine (clone37_any B _ b g.us _ (rd_bel h2 (bel_drew hx) rfl rfl) (by omega)).mono ?_
      rintro e w1 ⟨B', b', rfl, hB', hE1⟩; have hz1 := hE1.size_le; (try simp at hz1); try (replace hk5 := hk5.ext hE1)
      refine hK _ _ ((hE1).bel _) ?_
      clear hK
      intro hr
      replace hx := hx.trans hr
      clear hr
      try simp only [Act.put, List.setIfInBounds_toArray, List.set_cons_zero, List.set_cons_succ]
      refine wpT_call (List.getElem?_toArray.trans (by rfl)) (by rfl) (fun K hK => ?_) ?_
      · skip
        go_simp
        go_at_call 38
        refine (clone38_any C _ c g.rs _ (rd_bel h3 (bel_drew hx) rfl rfl) (by omega)).mono ?_
        rintro e w1 ⟨C', c', rfl, hC', hE2⟩; have hz2 := hE2.size_le; (try simp at hz2); try (replace hk5 := hk5.ext hE2)
        refine hK _ _ ((hE2).bel _) ?_
        clear hK
        intro hr
        replace hx := hx.trans hr
        clear hr
        try simp only [Act.put, List.setIfInBounds_toArray, List.set_cons_zero, List.set_cons_succ]
        first
          | (refine wpT_takeN hx (by simp) (v := ?_) (List.getElem?_toArray.trans (by rfl)) (by rfl) (fun _ hc => ?_) ?_
             rotate_left
             focus (go_simp; (try go_ints); exact rfl)
             simp only [Act.put, List.setIfInBounds_toArray, List.set_cons_zero, List.set_cons_succ])
          | (refine wpT_skip (List.getElem?_toArray.trans (by rfl)) (by rfl) ?_; simp only [Act.put, List.setIfInBounds_toArray, List.set_cons_zero, List.set_cons_succ])
        refine wpT_call (List.getElem?_toArray.trans (by rfl)) (by rfl) (fun K hK => ?_) ?_
        · skip
          
          go_simp
          first | (refine hK _ _ ?_ ?_; (focus ((repeat (first | (with_reducible exact Bel.refl _ _ _) | assumption | (with_reducible exact Bel.alloc1 (by first | assumption | omega | (simp; omega))) | (with_reducible refine Bel.drew ?_) | (with_reducible refine Bel.drewL ?_) | (with_reducible refine Bel.setCell ?_ ?_ _; rotate_left; (focus (first | omega | (simp; done) | (simp; omega)))) | (with_reducible refine Bel.alloc ?_ _))); done))) | (refine hK undef _ ?_ ?_; (focus ((repeat (first | (with_reducible exact Bel.refl _ _ _) | assumption | (with_reducible exact Bel.alloc1 (by first | assumption | omega | (simp; omega))) | (with_reducible refine Bel.drew ?_) | (with_reducible refine Bel.drewL ?_) | (with_reducible refine Bel.setCell ?_ ?_ _; rotate_left; (focus (first | omega | (simp; done) | (simp; omega)))) | (with_reducible refine Bel.alloc ?_ _))); done)))
          clear hK
          intro hr
          (try have hk5 := blk_of_bel hr); (try have hk5 := blk_of_bel2 hr)
          replace hx := hx.trans hr
          clear hr
          try simp only [Act.put, List.setIfInBounds_toArray, List.set_cons_zero, List.set_cons_succ]
          refine wpT_store (List.getElem?_toArray.trans (by rfl)) rfl (by rfl) (fun K hK => ?_) ?_
          · skip
            try (have hc5 := hk5.cell; have hf5 := hk5.froz)
            go_simp
            refine hK _ ?_ ?_
            focus ((repeat (first | (with_reducible exact Bel.refl _ _ _) | assumption | (with_reducible exact Bel.alloc1 (by first | assumption | omega | (simp; omega))) | (with_reducible refine Bel.drew ?_) | (with_reducible refine Bel.drewL ?_) | (with_reducible refine Bel.setCell ?_ ?_ _; rotate_left; (focus (first | omega | (simp; done) | (simp; omega)))) | (with_reducible refine Bel.alloc ?_ _))); done)
            clear hK
            intro hr
            replace hx := hx.trans hr
            clear hr
            try simp only [Act.put, List.setIfInBounds_toArray, List.set_cons_zero, List.set_cons_succ]
            refine wpT_done ?_
            go_wp2
            go_meet
            refine ⟨_, _, _, rfl, ?_, fin_copy hB' hC' (((Ext.trans (by (repeat (first | (with_reducible exact Ext.refl _) | assumption | (with_reducible refine Ext.alloc ?_ _) | (with_reducible refine Ext.drew ?_) | (with_reducible refine Ext.drewL ?_) | refine Ext.trans ?_ (by assumption)))) hE2).but _).trans (by (repeat (first | (with_reducible exact But.refl _ _) | assumption | (with_reducible refine But.drew ?_) | (with_reducible refine But.drewL ?_) | (with_reducible refine But.setCell ?_ ?_ _; rotate_left; (focus (simp; done))) | (with_reducible refine But.setCellL ?_ ?_; rotate_left; (focus (simp; done))) | (with_reducible refine But.alloc2 ?_ ?_; rotate_left; (focus (simp [World.setCell]; done))) | (with_reducible refine But.allocL ?_ ?_ ?_; rotate_left; (focus (simp; done)); (focus (simp; done))) | (with_reducible refine But.alloc ?_ _))))) (by (repeat (first | (with_reducible exact But.refl _ _) | assumption | (with_reducible refine But.drew ?_) | (with_reducible refine But.drewL ?_) | (with_reducible refine But.setCell ?_ ?_ _; rotate_left; (focus (simp; done))) | (with_reducible refine But.setCellL ?_ ?_; rotate_left; (focus (simp; done))) | (with_reducible refine But.alloc2 ?_ ?_; rotate_left; (focus (simp [World.setCell]; done))) | (with_reducible refine But.allocL ?_ ?_ ?_; rotate_left; (focus (simp; done)); (focus (simp; done))) | (with_reducible refine But.alloc ?_ _)))) (by (first | omega | (simp; done) | (simp; omega))) (by (first | omega | (simp; done) | (simp; omega))) (by (first | omega | (simp; done) | (simp; omega))) (by (first | omega | (simp; done) | (simp; omega))), ext_bel hx, by (first | omega | (simp; done) | (simp; omega))⟩
            first
              | exact Blk.new rfl
              | exact ((hk5.set_ 0 _).set_ 1 _).set_ 2 _
          exact wpT_none
        exact wpT_none
      refine wpT_call (List.getElem?_toArray.trans (by rfl)) (by rfl) (fun K hK => ?_) ?_
      · skip
        
        go_simp
        first | (refine hK _ _ ?_ ?_; (focus ((repeat (first | (with_reducible exact Bel.refl _ _ _) | assumption | (with_reducible exact Bel.alloc1 (by first | assumption | omega | (simp; omega))) | (with_reducible refine Bel.drew ?_) | (with_reducible refine Bel.drewL ?_) | (with_reducible refine Bel.setCell ?_ ?_ _; rotate_left; (focus (first | omega | (simp; done) | (simp; omega)))) | (with_reducible refine Bel.alloc ?_ _))); done))) | (refine hK undef _ ?_ ?_; (focus ((repeat (first | (with_reducible exact Bel.refl _ _ _) | assumption | (with_reducible exact Bel.alloc1 (by first | assumption | omega | (simp; omega))) | (with_reducible refine Bel.drew ?_) | (with_reducible refine Bel.drewL ?_) | (with_reducible refine Bel.setCell ?_ ?_ _; rotate_left; (focus (first | omega | (simp; done) | (simp; omega)))) | (with_reducible refine Bel.alloc ?_ _))); done)))
        clear hK
        intro hr
        (try have hk5 := blk_of_bel hr); (try have hk5 := blk_of_bel2 hr)
        replace hx := hx.trans hr
        clear hr
        try simp only [Act.put, List.setIfInBounds_toArray, List.set_cons_zero, List.set_cons_succ]
        refine wpT_call (List.getElem?_toArray.trans (by rfl)) (by rfl) (fun K hK => ?_) ?_
        · skip
          go_simp
          go_at_call 38
          refine (clone38_any C _ c g.rs _ (rd_bel h3 (bel_drew hx) rfl rfl) (by omega)).mono ?_
          rintro e w1 ⟨C', c', rfl, hC', hE2⟩; have hz2 := hE2.size_le; (try simp at hz2); try (replace hk5 := hk5.ext hE2)
          refine hK _ _ ((hE2).bel _) ?_
          clear hK
          intro hr
          replace hx := hx.trans hr
          clear hr
          try simp only [Act.put, List.setIfInBounds_toArray, List.set_cons_zero, List.set_cons_succ]
          first
            | (refine wpT_takeN hx (by simp) (v := ?_) (List.getElem?_toArray.trans (by rfl)) (by rfl) (fun _ hc => ?_) ?_
               rotate_left
               focus (go_simp; (try go_ints); exact rfl)
               simp only [Act.put, List.setIfInBounds_toArray, List.set_cons_zero, List.set_cons_succ])
            | (refine wpT_skip (List.getElem?_toArray.trans (by rfl)) (by rfl) ?_; simp only [Act.put, List.setIfInBounds_toArray, List.set_cons_zero, List.set_cons_succ])
          refine wpT_store (List.getElem?_toArray.trans (by rfl)) rfl (by rfl) (fun K hK => ?_) ?_
          · skip
            try (have hc5 := hk5.cell; have hf5 := hk5.froz)
            go_simp
            refine hK _ ?_ ?_
            focus ((repeat (first | (with_reducible exact Bel.refl _ _ _) | assumption | (with_reducible exact Bel.alloc1 (by first | assumption | omega | (simp; omega))) | (with_reducible refine Bel.drew ?_) | (with_reducible refine Bel.drewL ?_) | (with_reducible refine Bel.setCell ?_ ?_ _; rotate_left; (focus (first | omega | (simp; done) | (simp; omega)))) | (with_reducible refine Bel.alloc ?_ _))); done)
            clear hK
            intro hr
            replace hx := hx.trans hr
            clear hr
            try simp only [Act.put, List.setIfInBounds_toArray, List.set_cons_zero, List.set_cons_succ]
            refine wpT_done ?_
            go_wp2
            go_meet
            refine ⟨_, _, _, rfl, ?_, fin_copy hB' hC' (((Ext.trans (by (repeat (first | (with_reducible exact Ext.refl _) | assumption | (with_reducible refine Ext.alloc ?_ _) | (with_reducible refine Ext.drew ?_) | (with_reducible refine Ext.drewL ?_) | refine Ext.trans ?_ (by assumption)))) hE2).but _).trans (by (repeat (first | (with_reducible exact But.refl _ _) | assumption | (with_reducible refine But.drew ?_) | (with_reducible refine But.drewL ?_) | (with_reducible refine But.setCell ?_ ?_ _; rotate_left; (focus (simp; done))) | (with_reducible refine But.setCellL ?_ ?_; rotate_left; (focus (simp; done))) | (with_reducible refine But.alloc2 ?_ ?_; rotate_left; (focus (simp [World.setCell]; done))) | (with_reducible refine But.allocL ?_ ?_ ?_; rotate_left; (focus (simp; done)); (focus (simp; done))) | (with_reducible refine But.alloc ?_ _))))) (by (repeat (first | (with_reducible exact But.refl _ _) | assumption | (with_reducible refine But.drew ?_) | (with_reducible refine But.drewL ?_) | (with_reducible refine But.setCell ?_ ?_ _; rotate_left; (focus (simp; done))) | (with_reducible refine But.setCellL ?_ ?_; rotate_left; (focus (simp; done))) | (with_reducible refine But.alloc2 ?_ ?_; rotate_left; (focus (simp [World.setCell]; done))) | (with_reducible refine But.allocL ?_ ?_ ?_; rotate_left; (focus (simp; done)); (focus (simp; done))) | (with_reducible refine But.alloc ?_ _)))) (by (first | omega | (simp; done) | (simp; omega))) (by (first | omega | (simp; done) | (simp; omega))) (by (first | omega | (simp; done) | (simp; omega))) (by (first | omega | (simp; done) | (simp; omega))), ext_bel hx, by (first | omega | (simp; done) | (simp; omega))⟩
            first
              | exact Blk.new rfl
              | exact ((hk5.set_ 0 _).set_ 1 _).set_ 2 _
          exact wpT_none
        exact wpT_none
      exact wpT_none
    refine wpT_call (List.getElem?_toArray.trans (by rfl)) (by rfl) (fun K hK => ?_) ?_
    · skip
      
      go_simp
      first | (refine hK _ _ ?_ ?_; (focus ((repeat (first | (with_reducible exact Bel.refl _ _ _) | assumption | (with_reducible exact Bel.alloc1 (by first | assumption | omega | (simp; omega))) | (with_reducible refine Bel.drew ?_) | (with_reducible refine Bel.drewL ?_) | (with_reducible refine Bel.setCell ?_ ?_ _; rotate_left; (focus (first | omega | (simp; done) | (simp; omega)))) | (with_reducible refine Bel.alloc ?_ _))); done))) | (refine hK undef _ ?_ ?_; (focus ((repeat (first | (with_reducible exact Bel.refl _ _ _) | assumption | (with_reducible exact Bel.alloc1 (by first | assumption | omega | (simp; omega))) | (with_reducible refine Bel.drew ?_) | (with_reducible refine Bel.drewL ?_) | (with_reducible refine Bel.setCell ?_ ?_ _; rotate_left; (focus (first | omega | (simp; done) | (simp; omega)))) | (with_reducible refine Bel.alloc ?_ _))); done)))
      clear hK
      intro hr
      (try have hk5 := blk_of_bel hr); (try have hk5 := blk_of_bel2 hr)
      replace hx := hx.trans hr
      clear hr
      try simp only [Act.put, List.setIfInBounds_toArray, List.set_cons_zero, List.set_cons_succ]
      refine wpT_call (List.getElem?_toArray.trans (by rfl)) (by rfl) (fun K hK => ?_) ?_
      · skip
        go_simp
        go_at_call 37
        refine (clone37_any B _ b g.us _ (rd_bel h2 (bel_drew hx) rfl rfl) (by omega)).mono ?_
        rintro e w1 ⟨B', b', rfl, hB', hE1⟩; have hz1 := hE1.size_le; (try simp at hz1); try (replace hk5 := hk5.ext hE1)
        refine hK _ _ ((hE1).bel _) ?_
        clear hK
        intro hr
        replace hx := hx.trans hr
        clear hr
        try simp only [Act.put, List.setIfInBounds_toArray, List.set_cons_zero, List.set_cons_succ]
        refine wpT_call (List.getElem?_toArray.trans (by rfl)) (by rfl) (fun K hK => ?_) ?_
        · skip
          go_simp
          go_at_call 38
          refine (clone38_any C _ c g.rs _ (rd_bel h3 (bel_drew hx) rfl rfl) (by omega)).mono ?_
          rintro e w1 ⟨C', c', rfl, hC', hE2⟩; have hz2 := hE2.size_le; (try simp at hz2); try (replace hk5 := hk5.ext hE2)
          refine hK _ _ ((hE2).bel _) ?_
          clear hK
          intro hr
          replace hx := hx.trans hr
          clear hr
          try simp only [Act.put, List.setIfInBounds_toArray, List.set_cons_zero, List.set_cons_succ]
          first
            | (refine wpT_takeN hx (by simp) (v := ?_) (List.getElem?_toArray.trans (by rfl)) (by rfl) (fun _ hc => ?_) ?_
               rotate_left
               focus (go_simp; (try go_ints); exact rfl)
               simp only [Act.put, List.setIfInBounds_toArray, List.set_cons_zero, List.set_cons_succ])
            | (refine wpT_skip (List.getElem?_toArray.trans (by rfl)) (by rfl) ?_; simp only [Act.put, List.setIfInBounds_toArray, List.set_cons_zero, List.set_cons_succ])
          refine wpT_store (List.getElem?_toArray.trans (by rfl)) rfl (by rfl) (fun K hK => ?_) ?_
          · skip
            try (have hc5 := hk5.cell; have hf5 := hk5.froz)
            go_simp
            refine hK _ ?_ ?_
            focus ((repeat (first | (with_reducible exact Bel.refl _ _ _) | assumption | (with_reducible exact Bel.alloc1 (by first | assumption | omega | (simp; omega))) | (with_reducible refine Bel.drew ?_) | (with_reducible refine Bel.drewL ?_) | (with_reducible refine Bel.setCell ?_ ?_ _; rotate_left; (focus (first | omega | (simp; done) | (simp; omega)))) | (with_reducible refine Bel.alloc ?_ _))); done)
            clear hK
            intro hr
            replace hx := hx.trans hr
            clear hr
            try simp only [Act.put, List.setIfInBounds_toArray, List.set_cons_zero, List.set_cons_succ]
            refine wpT_done ?_
            go_wp2
            go_meet
            refine ⟨_, _, _, rfl, ?_, fin_copy hB' hC' (((Ext.trans (by (repeat (first | (with_reducible exact Ext.refl _) | assumption | (with_reducible refine Ext.alloc ?_ _) | (with_reducible refine Ext.drew ?_) | (with_reducible refine Ext.drewL ?_) | refine Ext.trans ?_ (by assumption)))) hE2).but _).trans (by (repeat (first | (with_reducible exact But.refl _ _) | assumption | (with_reducible refine But.drew ?_) | (with_reducible refine But.drewL ?_) | (with_reducible refine But.setCell ?_ ?_ _; rotate_left; (focus (simp; done))) | (with_reducible refine But.setCellL ?_ ?_; rotate_left; (focus (simp; done))) | (with_reducible refine But.alloc2 ?_ ?_; rotate_left; (focus (simp [World.setCell]; done))) | (with_reducible refine But.allocL ?_ ?_ ?_; rotate_left; (focus (simp; done)); (focus (simp; done))) | (with_reducible refine But.alloc ?_ _))))) (by (repeat (first | (with_reducible exact But.refl _ _) | assumption | (with_reducible refine But.drew ?_) | (with_reducible refine But.drewL ?_) | (with_reducible refine But.setCell ?_ ?_ _; rotate_left; (focus (simp; done))) | (with_reducible refine But.setCellL ?_ ?_; rotate_left; (focus (simp; done))) | (with_reducible refine But.alloc2 ?_ ?_; rotate_left; (focus (simp [World.setCell]; done))) | (with_reducible refine But.allocL ?_ ?_ ?_; rotate_left; (focus (simp; done)); (focus (simp; done))) | (with_reducible refine But.alloc ?_ _)))) (by (first | omega | (simp; done) | (simp; omega))) (by (first | omega | (simp; done) | (simp; omega))) (by (first | omega | (simp; done) | (simp; omega))) (by (first | omega | (simp; done) | (simp; omega))), ext_bel hx, by (first | omega | (simp; done) | (simp; omega))⟩
            first
              | exact Blk.new rfl
              | exact ((hk5.set_ 0 _).set_ 1 _).set_ 2 _
          exact wpT_none
        exact wpT_none
      exact wpT_none
    exact wpT_none
    
  case rest =>
    obtain ⟨o, vB, vC, rfl, kO, hG, hEW, hoW⟩ := hcut
    obtain ⟨B1, b1', rfl⟩ := own_slice hG.used
    obtain ⟨C1, c1', rfl⟩ := own_slice hG.roots
    have lO := kO.lt
    have cO := kO.cell
    have k1' := k1.ext hEW
    have m1' := k1'.cell
    have l1' := k1'.lt
    clear m1
    go_wp2_with fail
    go_loopw [16] (fun i wr => ∃ (k : Nat) (vA : Value) (qs : List (Value × Value)), k ≤ g.ns.length ∧ i = .int .i64 k ∧ Blk wr o 26 #[vA, .slice B1 g.us.length b1', .slice C1 g.rs.length c1'] ∧ GOwn wr W.heap.size o vA (.slice B1 g.us.length b1') (.slice C1 g.rs.length c1') qs ⟨g.ns.take k, g.us, g.rs⟩ ∧ Ext W wr) (fun i _ => g.ns.length - (intOf i).toNat)
    case atStart => exact ⟨0, _, _, by omega, rfl, kO, hG, hEW⟩
    case round =>
      clear kO hG hEW lO cO k1' m1' l1'
      obtain ⟨k, vA, qs, hk, rfl, kO, hG, hEW⟩ := hrel
      have cO := kO.cell
      have fO := kO.froz
      have lO := kO.lt
      by_cases hlt : k < g.ns.length
      · have hdec : decide ((k : Int) < g.ns.length) = true := by simp; omega
        have hdec' : decide (k < g.ns.length) = true := by simp; omega
        have hkb : (k : Int) < g.ns.length := by omega
        obtain ⟨x, hx0⟩ : ∃ x, g.ns[k]? = some x := ⟨_, List.getElem?_eq_getElem hlt⟩
        have hpl : ps.length = g.ns.length := by have := h1.1; rw [vals_len] at this; omega
        obtain ⟨p, hp0⟩ : ∃ p, ps[k]? = some p := ⟨_, List.getElem?_eq_getElem (by omega)⟩
        obtain ⟨R, c1, D, c2, rfl, hR, hD⟩ := h4 k p x hp0 hx0
        obtain ⟨ba, oa, rfl, hca⟩ := (h1.ext hEW).2 (by omega)
        have q0 := hca _ _ (vals_at ps k _ hp0).1
        have q1 := hca _ _ (vals_at ps k _ hp0).2
        rw [← Nat.add_assoc] at q1
        simp only at q0 q1
        have lq := cell_lt q0
        obtain ⟨x1, x2⟩ := Hb.out k x hx0
        have hR' := hR.ext (hX.trans hEW)
        have hD' := hD.ext (hX.trans hEW)
        clear hca hp0 hR hD h1
        have Hx0 := Lib.hid hx0
        have Hl := Lib.hid hpl
        clear hx0 hpl
        have hN := hG.nodes
        simp only [List.length_take, Nat.min_eq_left hk] at hN
        obtain ⟨A1, a1, rfl⟩ := own_slice hN
        go_upto_region 5 with fail
        have hX5 := Ext.alloc (Ext.refl wr) (.cells #[.slice R x.1.length c1, .slice D x.2.length c2] 49)
        have k5 : Blk (wr.alloc (.cells #[.slice R x.1.length c1, .slice D x.2.length c2] 49)) wr.heap.size 49 #[.slice R x.1.length c1, .slice D x.2.length c2] := Blk.new rfl
        generalize hW5 : wr.alloc (.cells #[.slice R x.1.length c1, .slice D x.2.length c2] 49) = W5 at hX5 k5 ⊢
        clear hW5
        have m5 := k5.cell
        have l5 := k5.lt
        have hR5 := hR'.ext hX5
        have hD5 := hD'.ext hX5
        have hN5 := own_ext hN hX5
        have kOw : Blk W5.drew o 26 #[.slice A1 k a1, .slice B1 g.us.length b1', .slice C1 g.rs.length c1'] := (kO.ext hX5).drew
        obtain ⟨S, hS⟩ : ∃ S : List Nat, S = o :: (Value.slice A1 k a1).ownBlock.toList := ⟨_, rfl⟩
        have hoS : o ∈ S := by rw [hS]; simp
        have hAS : ∀ q ∈ (Value.slice A1 k a1).ownBlock.toList, q ∈ S := fun q hq => by rw [hS]; exact List.mem_cons_of_mem _ hq
        have hoA : o ∉ (Value.slice A1 k a1).ownBlock.toList := fun hm => hG.off .A (by simpa [kv] using hm)
        have hSW : ∀ q ∈ S, W.heap.size ≤ q ∧ q < wr.heap.size := fun q hq => by
          rw [hS, List.mem_cons] at hq
          rcases hq with rfl | hq
          · exact ⟨hoW, lO⟩
          · exact hG.lt .A q (by simpa [kv] using hq)
        have hnS : wr.heap.size ∉ S := fun hm => by have := (hSW _ hm).2; omega
        have hEs := hEW.size_le
        have hz5 := hX5.size_le
        clear hS hR' hD' cO fO k5 q0 q1
        refine wp_region_treeN (W5.heap.size) S (.take 0 (.take 2 (.take 3 (.take 5 (.take 6 (.alt 1 (.alt 4 (.alt 7 (.take 8 (.alt 9 (.alt 10 (.take 11 (.alt 12 .done .none)) .none) .none)) .none) .none) (.alt 4 (.alt 1 (.alt 7 (.take 8 (.alt 9 (.alt 10 (.take 11 (.alt 12 .done .none)) .none) .none)) .none) (.alt 7 (.take 8 (.alt 1 (.alt 9 (.alt 10 (.take 11 (.alt 12 .done .none)) .none) .none) (.alt 9 (.alt 1 (.alt 10 (.take 11 (.alt 12 .done .none)) .none) .none) .none))) .none)) .none))))))) Try.mixed (by kernel_rfl) ?_
        intro hx
        first
          | (refine wpT_takeN hx (by simp) (v := ?_) (List.getElem?_toArray.trans (by rfl)) (by rfl) (fun _ hc => ?_) ?_
             rotate_left
             focus (go_simp; (try go_ints); exact rfl)
             simp only [Act.put, List.setIfInBounds_toArray, List.set_cons_zero, List.set_cons_succ])
          | (refine wpT_skip (List.getElem?_toArray.trans (by rfl)) (by rfl) ?_; simp only [Act.put, List.setIfInBounds_toArray, List.set_cons_zero, List.set_cons_succ])
        first
          | (refine wpT_takeN hx (by simp) (v := ?_) (List.getElem?_toArray.trans (by rfl)) (by rfl) (fun _ hc => ?_) ?_
             rotate_left
             focus (go_simp; (try go_ints); exact rfl)
             simp only [Act.put, List.setIfInBounds_toArray, List.set_cons_zero, List.set_cons_succ])
          | (refine wpT_skip (List.getElem?_toArray.trans (by rfl)) (by rfl) ?_; simp only [Act.put, List.setIfInBounds_toArray, List.set_cons_zero, List.set_cons_succ])
        first
          | (refine wpT_takeN hx (by simp) (v := ?_) (List.getElem?_toArray.trans (by rfl)) (by rfl) (fun _ hc => ?_) ?_
             rotate_left
             focus (go_simp; (try go_ints); exact rfl)
             simp only [Act.put, List.setIfInBounds_toArray, List.set_cons_zero, List.set_cons_succ])
          | (refine wpT_skip (List.getElem?_toArray.trans (by rfl)) (by rfl) ?_; simp only [Act.put, List.setIfInBounds_toArray, List.set_cons_zero, List.set_cons_succ])
        first
          | (refine wpT_takeN hx (by simp) (v := ?_) (List.getElem?_toArray.trans (by rfl)) (by rfl) (fun _ hc => ?_) ?_
             rotate_left
             focus (go_simp; (try go_ints); exact rfl)
             simp only [Act.put, List.setIfInBounds_toArray, List.set_cons_zero, List.set_cons_succ])
          | (refine wpT_skip (List.getElem?_toArray.trans (by rfl)) (by rfl) ?_; simp only [Act.put, List.setIfInBounds_toArray, List.set_cons_zero, List.set_cons_succ])
        first
          | (refine wpT_takeN hx (by simp) (v := ?_) (List.getElem?_toArray.trans (by rfl)) (by rfl) (fun _ hc => ?_) ?_
             rotate_left
             focus (go_simp; (try go_ints); exact rfl)
             simp only [Act.put, List.setIfInBounds_toArray, List.set_cons_zero, List.set_cons_succ])
          | (refine wpT_skip (List.getElem?_toArray.trans (by rfl)) (by rfl) ?_; simp only [Act.put, List.setIfInBounds_toArray, List.set_cons_zero, List.set_cons_succ])
        refine wpT_call (List.getElem?_toArray.trans (by rfl)) (by rfl) (fun K hK => ?_) ?_
        · skip
          have cOw := kOw.cell
          go_simp
          first | (refine hK _ _ ?_ ?_; (focus ((repeat (first | (with_reducible exact Bel.refl _ _ _) | assumption | (with_reducible exact Bel.alloc1 (by first | assumption | omega | (simp; omega))) | (with_reducible refine Bel.drew ?_) | (with_reducible refine Bel.drewL ?_) | (with_reducible refine Bel.setCell ?_ ?_ _; rotate_left; (focus (first | omega | (simp; done) | (simp; omega)))) | (with_reducible refine Bel.alloc ?_ _))); done))) | (refine hK undef _ ?_ ?_; (focus ((repeat (first | (with_reducible exact Bel.refl _ _ _) | assumption | (with_reducible exact Bel.alloc1 (by first | assumption | omega | (simp; omega))) | (with_reducible refine Bel.drew ?_) | (with_reducible refine Bel.drewL ?_) | (with_reducible refine Bel.setCell ?_ ?_ _; rotate_left; (focus (first | omega | (simp; done) | (simp; omega)))) | (with_reducible refine Bel.alloc ?_ _))); done)))
          clear hK
          intro hr
          replace hx := hx.trans hr
          clear hr
          try simp only [Act.put, List.setIfInBounds_toArray, List.set_cons_zero, List.set_cons_succ]
          refine wpT_call (List.getElem?_toArray.trans (by rfl)) (by rfl) (fun K hK => ?_) ?_
          · skip
            go_simp
            go_at_call 38
            refine (clone38_any R _ c1 x.1 _ (hR5.ext (by (repeat (first | (with_reducible exact Ext.refl _) | assumption | (with_reducible refine Ext.alloc ?_ _) | (with_reducible refine Ext.drew ?_) | (with_reducible refine Ext.drewL ?_) | refine Ext.trans ?_ (by assumption))))) (by omega)).mono ?_
            rintro e w1 ⟨R', c1', rfl, hR1, hE1⟩; have hz1 := hE1.size_le; (try simp at hz1); replace kOw := kOw.ext hE1
            refine hK _ _ ((hE1).bel _) ?_
            clear hK
            intro hr
            replace hx := hx.trans hr
            clear hr
            try simp only [Act.put, List.setIfInBounds_toArray, List.set_cons_zero, List.set_cons_succ]
            refine wpT_call (List.getElem?_toArray.trans (by rfl)) (by rfl) (fun K hK => ?_) ?_
            · skip
              go_simp
              go_at_call 39
              refine (clone39_any D _ c2 x.2 _ (hD5.ext (by (repeat (first | (with_reducible exact Ext.refl _) | assumption | (with_reducible refine Ext.alloc ?_ _) | (with_reducible refine Ext.drew ?_) | (with_reducible refine Ext.drewL ?_) | refine Ext.trans ?_ (by assumption))))) (by omega)).mono ?_
              rintro e w1 ⟨D', c2', rfl, hD2, hE2⟩; have hz2 := hE2.size_le; (try simp at hz2); replace kOw := kOw.ext hE2
              refine hK _ _ ((hE2).bel _) ?_
              clear hK
              intro hr
              replace hx := hx.trans hr
              clear hr
              try simp only [Act.put, List.setIfInBounds_toArray, List.set_cons_zero, List.set_cons_succ]
              first
                | (refine wpT_takeN hx (by simp) (v := ?_) (List.getElem?_toArray.trans (by rfl)) (by rfl) (fun _ hc => ?_) ?_
                   rotate_left
                   focus (go_simp; (try go_ints); exact rfl)
                   simp only [Act.put, List.setIfInBounds_toArray, List.set_cons_zero, List.set_cons_succ])
                | (refine wpT_skip (List.getElem?_toArray.trans (by rfl)) (by rfl) ?_; simp only [Act.put, List.setIfInBounds_toArray, List.set_cons_zero, List.set_cons_succ])
              refine wpT_call (List.getElem?_toArray.trans (by rfl)) (by rfl) (fun K hK => ?_) ?_
              · skip
                
                go_simp
                first | (refine hK _ _ ?_ ?_; (focus ((repeat (first | (with_reducible exact Bel.refl _ _ _) | assumption | (with_reducible exact Bel.alloc1 (by first | assumption | omega | (simp; omega))) | (with_reducible refine Bel.drew ?_) | (with_reducible refine Bel.drewL ?_) | (with_reducible refine Bel.setCell ?_ ?_ _; rotate_left; (focus (first | omega | (simp; done) | (simp; omega)))) | (with_reducible refine Bel.alloc ?_ _))); done))) | (refine hK undef _ ?_ ?_; (focus ((repeat (first | (with_reducible exact Bel.refl _ _ _) | assumption | (with_reducible exact Bel.alloc1 (by first | assumption | omega | (simp; omega))) | (with_reducible refine Bel.drew ?_) | (with_reducible refine Bel.drewL ?_) | (with_reducible refine Bel.setCell ?_ ?_ _; rotate_left; (focus (first | omega | (simp; done) | (simp; omega)))) | (with_reducible refine Bel.alloc ?_ _))); done)))
                clear hK
                intro hr
                replace kOw := blk_bel_alloc hr kOw
                replace hx := hx.trans hr
                clear hr
                try simp only [Act.put, List.setIfInBounds_toArray, List.set_cons_zero, List.set_cons_succ]
                refine wpT_call (List.getElem?_toArray.trans (by rfl)) (by rfl) (fun K hK => ?_) ?_
                · skip
                  refine wp_append Try.el23 _ _ rfl W.heap.size _ _ _ rfl (own_ext hN5 (by (repeat (first | (with_reducible exact Ext.refl _) | assumption | (with_reducible refine Ext.alloc ?_ _) | (with_reducible refine Ext.drew ?_) | (with_reducible refine Ext.drewL ?_) | refine Ext.trans ?_ (by assumption))))) _ 1 1 _ rfl (rd_new _ [_, _] 49 1 2 rfl) (by simp [Value.oneCell']) (by omega) (by omega) (by (first | omega | (simp; done) | (simp; omega))) ?_
                  intro A2 c3 w3 hN3 hg3 hat3; replace kOw := kOw.but (but_grown hg3) hoA
                  refine hK _ _ (((But.more (but_grown hg3) hAS).bel _)) ?_
                  clear hK
                  intro hr
                  replace hx := hx.trans hr
                  clear hr
                  try simp only [Act.put, List.setIfInBounds_toArray, List.set_cons_zero, List.set_cons_succ]
                  first
                    | (refine wpT_takeN hx (by simp) (v := ?_) (List.getElem?_toArray.trans (by rfl)) (by rfl) (fun _ hc => ?_) ?_
                       rotate_left
                       focus (go_simp; (try go_ints); exact rfl)
                       simp only [Act.put, List.setIfInBounds_toArray, List.set_cons_zero, List.set_cons_succ])
                    | (refine wpT_skip (List.getElem?_toArray.trans (by rfl)) (by rfl) ?_; simp only [Act.put, List.setIfInBounds_toArray, List.set_cons_zero, List.set_cons_succ])
                  refine wpT_store (List.getElem?_toArray.trans (by rfl)) rfl (by rfl) (fun K hK => ?_) ?_
                  · skip
                    have cOw := kOw.cell; have fOw := kOw.froz
                    go_simp
                    refine hK _ ?_ ?_
                    focus (exact (Bel.setIn (p := ⟨o, 0, none⟩) (Bel.refl _ _ _) hoS _); done)
                    clear hK
                    intro hr
                    replace hx := hx.trans hr
                    clear hr
                    try simp only [Act.put, List.setIfInBounds_toArray, List.set_cons_zero, List.set_cons_succ]
                    refine wpT_done ?_
                    obtain ⟨kO6, hG6⟩ := fin_node (x := x) hG kO (hX5.trans (by (repeat (first | (with_reducible exact Ext.refl _) | assumption | (with_reducible refine Ext.alloc ?_ _) | (with_reducible refine Ext.drew ?_) | (with_reducible refine Ext.drewL ?_) | refine Ext.trans ?_ (by assumption))))) hR1 hD2 hE2 (by (repeat (first | (with_reducible exact Ext.refl _) | assumption | (with_reducible refine Ext.alloc ?_ _) | (with_reducible refine Ext.drew ?_) | (with_reducible refine Ext.drewL ?_) | refine Ext.trans ?_ (by assumption)))) (by (first | omega | (simp; done) | (simp; omega))) (by (first | omega | (simp; done) | (simp; omega))) (by omega) (by simp only [List.length_take]; omega) hN3 hg3 hat3
                    have hE6 := But.ext (hEW.trans hX5) (bel_drew hx).but (fun q hq => (hSW q hq).1)
                    go_wp2_with fail
                    go_roundw
                    case rel => exact ⟨k + 1, _, _, by omega, by go_num, kO6, by rw [List.take_add_one, Hx0.out]; exact hG6, hE6⟩
                    case measure => simp [intOf]; omega
                  exact wpT_none
                exact wpT_none
              exact wpT_none
            exact wpT_none
          exact wpT_none
        refine wpT_call (List.getElem?_toArray.trans (by rfl)) (by rfl) (fun K hK => ?_) ?_
        · skip
          go_simp
          go_at_call 38
          refine (clone38_any R _ c1 x.1 _ (hR5.ext (by (repeat (first | (with_reducible exact Ext.refl _) | assumption | (with_reducible refine Ext.alloc ?_ _) | (with_reducible refine Ext.drew ?_) | (with_reducible refine Ext.drewL ?_) | refine Ext.trans ?_ (by assumption))))) (by omega)).mono ?_
          rintro e w1 ⟨R', c1', rfl, hR1, hE1⟩; have hz1 := hE1.size_le; (try simp at hz1); replace kOw := kOw.ext hE1
          refine hK _ _ ((hE1).bel _) ?_
          clear hK
          intro hr
          replace hx := hx.trans hr
          clear hr
          try simp only [Act.put, List.setIfInBounds_toArray, List.set_cons_zero, List.set_cons_succ]
          refine wpT_call (List.getElem?_toArray.trans (by rfl)) (by rfl) (fun K hK => ?_) ?_
          · skip
            have cOw := kOw.cell
            go_simp
            first | (refine hK _ _ ?_ ?_; (focus ((repeat (first | (with_reducible exact Bel.refl _ _ _) | assumption | (with_reducible exact Bel.alloc1 (by first | assumption | omega | (simp; omega))) | (with_reducible refine Bel.drew ?_) | (with_reducible refine Bel.drewL ?_) | (with_reducible refine Bel.setCell ?_ ?_ _; rotate_left; (focus (first | omega | (simp; done) | (simp; omega)))) | (with_reducible refine Bel.alloc ?_ _))); done))) | (refine hK undef _ ?_ ?_; (focus ((repeat (first | (with_reducible exact Bel.refl _ _ _) | assumption | (with_reducible exact Bel.alloc1 (by first | assumption | omega | (simp; omega))) | (with_reducible refine Bel.drew ?_) | (with_reducible refine Bel.drewL ?_) | (with_reducible refine Bel.setCell ?_ ?_ _; rotate_left; (focus (first | omega | (simp; done) | (simp; omega)))) | (with_reducible refine Bel.alloc ?_ _))); done)))
            clear hK
            intro hr
            replace hx := hx.trans hr
            clear hr
            try simp only [Act.put, List.setIfInBounds_toArray, List.set_cons_zero, List.set_cons_succ]
            refine wpT_call (List.getElem?_toArray.trans (by rfl)) (by rfl) (fun K hK => ?_) ?_
            · skip
              go_simp
              go_at_call 39
              refine (clone39_any D _ c2 x.2 _ (hD5.ext (by (repeat (first | (with_reducible exact Ext.refl _) | assumption | (with_reducible refine Ext.alloc ?_ _) | (with_reducible refine Ext.drew ?_) | (with_reducible refine Ext.drewL ?_) | refine Ext.trans ?_ (by assumption))))) (by omega)).mono ?_
              rintro e w1 ⟨D', c2', rfl, hD2, hE2⟩; have hz2 := hE2.size_le; (try simp at hz2); replace kOw := kOw.ext hE2
              refine hK _ _ ((hE2).bel _) ?_
              clear hK
              intro hr
              replace hx := hx.trans hr
              clear hr
              try simp only [Act.put, List.setIfInBounds_toArray, List.set_cons_zero, List.set_cons_succ]
              first
                | (refine wpT_takeN hx (by simp) (v := ?_) (List.getElem?_toArray.trans (by rfl)) (by rfl) (fun _ hc => ?_) ?_
                   rotate_left
                   focus (go_simp; (try go_ints); exact rfl)
                   simp only [Act.put, List.setIfInBounds_toArray, List.set_cons_zero, List.set_cons_succ])
                | (refine wpT_skip (List.getElem?_toArray.trans (by rfl)) (by rfl) ?_; simp only [Act.put, List.setIfInBounds_toArray, List.set_cons_zero, List.set_cons_succ])
              refine wpT_call (List.getElem?_toArray.trans (by rfl)) (by rfl) (fun K hK => ?_) ?_
              · skip
                
                go_simp
                first | (refine hK _ _ ?_ ?_; (focus ((repeat (first | (with_reducible exact Bel.refl _ _ _) | assumption | (with_reducible exact Bel.alloc1 (by first | assumption | omega | (simp; omega))) | (with_reducible refine Bel.drew ?_) | (with_reducible refine Bel.drewL ?_) | (with_reducible refine Bel.setCell ?_ ?_ _; rotate_left; (focus (first | omega | (simp; done) | (simp; omega)))) | (with_reducible refine Bel.alloc ?_ _))); done))) | (refine hK undef _ ?_ ?_; (focus ((repeat (first | (with_reducible exact Bel.refl _ _ _) | assumption | (with_reducible exact Bel.alloc1 (by first | assumption | omega | (simp; omega))) | (with_reducible refine Bel.drew ?_) | (with_reducible refine Bel.drewL ?_) | (with_reducible refine Bel.setCell ?_ ?_ _; rotate_left; (focus (first | omega | (simp; done) | (simp; omega)))) | (with_reducible refine Bel.alloc ?_ _))); done)))
                clear hK
                intro hr
                replace kOw := blk_bel_alloc hr kOw
                replace hx := hx.trans hr
                clear hr
                try simp only [Act.put, List.setIfInBounds_toArray, List.set_cons_zero, List.set_cons_succ]
                refine wpT_call (List.getElem?_toArray.trans (by rfl)) (by rfl) (fun K hK => ?_) ?_
                · skip
                  refine wp_append Try.el23 _ _ rfl W.heap.size _ _ _ rfl (own_ext hN5 (by (repeat (first | (with_reducible exact Ext.refl _) | assumption | (with_reducible refine Ext.alloc ?_ _) | (with_reducible refine Ext.drew ?_) | (with_reducible refine Ext.drewL ?_) | refine Ext.trans ?_ (by assumption))))) _ 1 1 _ rfl (rd_new _ [_, _] 49 1 2 rfl) (by simp [Value.oneCell']) (by omega) (by omega) (by (first | omega | (simp; done) | (simp; omega))) ?_
                  intro A2 c3 w3 hN3 hg3 hat3; replace kOw := kOw.but (but_grown hg3) hoA
                  refine hK _ _ (((But.more (but_grown hg3) hAS).bel _)) ?_
                  clear hK
                  intro hr
                  replace hx := hx.trans hr
                  clear hr
                  try simp only [Act.put, List.setIfInBounds_toArray, List.set_cons_zero, List.set_cons_succ]
                  first
                    | (refine wpT_takeN hx (by simp) (v := ?_) (List.getElem?_toArray.trans (by rfl)) (by rfl) (fun _ hc => ?_) ?_
                       rotate_left
                       focus (go_simp; (try go_ints); exact rfl)
                       simp only [Act.put, List.setIfInBounds_toArray, List.set_cons_zero, List.set_cons_succ])
                    | (refine wpT_skip (List.getElem?_toArray.trans (by rfl)) (by rfl) ?_; simp only [Act.put, List.setIfInBounds_toArray, List.set_cons_zero, List.set_cons_succ])
                  refine wpT_store (List.getElem?_toArray.trans (by rfl)) rfl (by rfl) (fun K hK => ?_) ?_
                  · skip
                    have cOw := kOw.cell; have fOw := kOw.froz
                    go_simp
                    refine hK _ ?_ ?_
                    focus (exact (Bel.setIn (p := ⟨o, 0, none⟩) (Bel.refl _ _ _) hoS _); done)
                    clear hK
                    intro hr
                    replace hx := hx.trans hr
                    clear hr
                    try simp only [Act.put, List.setIfInBounds_toArray, List.set_cons_zero, List.set_cons_succ]
                    refine wpT_done ?_
                    obtain ⟨kO6, hG6⟩ := fin_node (x := x) hG kO (hX5.trans (by (repeat (first | (with_reducible exact Ext.refl _) | assumption | (with_reducible refine Ext.alloc ?_ _) | (with_reducible refine Ext.drew ?_) | (with_reducible refine Ext.drewL ?_) | refine Ext.trans ?_ (by assumption))))) hR1 hD2 hE2 (by (repeat (first | (with_reducible exact Ext.refl _) | assumption | (with_reducible refine Ext.alloc ?_ _) | (with_reducible refine Ext.drew ?_) | (with_reducible refine Ext.drewL ?_) | refine Ext.trans ?_ (by assumption)))) (by (first | omega | (simp; done) | (simp; omega))) (by (first | omega | (simp; done) | (simp; omega))) (by omega) (by simp only [List.length_take]; omega) hN3 hg3 hat3
                    have hE6 := But.ext (hEW.trans hX5) (bel_drew hx).but (fun q hq => (hSW q hq).1)
                    go_wp2_with fail
                    go_roundw
                    case rel => exact ⟨k + 1, _, _, by omega, by go_num, kO6, by rw [List.take_add_one, Hx0.out]; exact hG6, hE6⟩
                    case measure => simp [intOf]; omega
                  exact wpT_none
                exact wpT_none
              exact wpT_none
            exact wpT_none
          refine wpT_call (List.getElem?_toArray.trans (by rfl)) (by rfl) (fun K hK => ?_) ?_
          · skip
            go_simp
            go_at_call 39
            refine (clone39_any D _ c2 x.2 _ (hD5.ext (by (repeat (first | (with_reducible exact Ext.refl _) | assumption | (with_reducible refine Ext.alloc ?_ _) | (with_reducible refine Ext.drew ?_) | (with_reducible refine Ext.drewL ?_) | refine Ext.trans ?_ (by assumption))))) (by omega)).mono ?_
            rintro e w1 ⟨D', c2', rfl, hD2, hE2⟩; have hz2 := hE2.size_le; (try simp at hz2); replace kOw := kOw.ext hE2
            refine hK _ _ ((hE2).bel _) ?_
            clear hK
            intro hr
            replace hx := hx.trans hr
            clear hr
            try simp only [Act.put, List.setIfInBounds_toArray, List.set_cons_zero, List.set_cons_succ]
            first
              | (refine wpT_takeN hx (by simp) (v := ?_) (List.getElem?_toArray.trans (by rfl)) (by rfl) (fun _ hc => ?_) ?_
                 rotate_left
                 focus (go_simp; (try go_ints); exact rfl)
                 simp only [Act.put, List.setIfInBounds_toArray, List.set_cons_zero, List.set_cons_succ])
              | (refine wpT_skip (List.getElem?_toArray.trans (by rfl)) (by rfl) ?_; simp only [Act.put, List.setIfInBounds_toArray, List.set_cons_zero, List.set_cons_succ])
            refine wpT_call (List.getElem?_toArray.trans (by rfl)) (by rfl) (fun K hK => ?_) ?_
            · skip
              have cOw := kOw.cell
              go_simp
              first | (refine hK _ _ ?_ ?_; (focus ((repeat (first | (with_reducible exact Bel.refl _ _ _) | assumption | (with_reducible exact Bel.alloc1 (by first | assumption | omega | (simp; omega))) | (with_reducible refine Bel.drew ?_) | (with_reducible refine Bel.drewL ?_) | (with_reducible refine Bel.setCell ?_ ?_ _; rotate_left; (focus (first | omega | (simp; done) | (simp; omega)))) | (with_reducible refine Bel.alloc ?_ _))); done))) | (refine hK undef _ ?_ ?_; (focus ((repeat (first | (with_reducible exact Bel.refl _ _ _) | assumption | (with_reducible exact Bel.alloc1 (by first | assumption | omega | (simp; omega))) | (with_reducible refine Bel.drew ?_) | (with_reducible refine Bel.drewL ?_) | (with_reducible refine Bel.setCell ?_ ?_ _; rotate_left; (focus (first | omega | (simp; done) | (simp; omega)))) | (with_reducible refine Bel.alloc ?_ _))); done)))
              clear hK
              intro hr
              replace hx := hx.trans hr
              clear hr
              try simp only [Act.put, List.setIfInBounds_toArray, List.set_cons_zero, List.set_cons_succ]
              refine wpT_call (List.getElem?_toArray.trans (by rfl)) (by rfl) (fun K hK => ?_) ?_
              · skip
                
                go_simp
                first | (refine hK _ _ ?_ ?_; (focus ((repeat (first | (with_reducible exact Bel.refl _ _ _) | assumption | (with_reducible exact Bel.alloc1 (by first | assumption | omega | (simp; omega))) | (with_reducible refine Bel.drew ?_) | (with_reducible refine Bel.drewL ?_) | (with_reducible refine Bel.setCell ?_ ?_ _; rotate_left; (focus (first | omega | (simp; done) | (simp; omega)))) | (with_reducible refine Bel.alloc ?_ _))); done))) | (refine hK undef _ ?_ ?_; (focus ((repeat (first | (with_reducible exact Bel.refl _ _ _) | assumption | (with_reducible exact Bel.alloc1 (by first | assumption | omega | (simp; omega))) | (with_reducible refine Bel.drew ?_) | (with_reducible refine Bel.drewL ?_) | (with_reducible refine Bel.setCell ?_ ?_ _; rotate_left; (focus (first | omega | (simp; done) | (simp; omega)))) | (with_reducible refine Bel.alloc ?_ _))); done)))
                clear hK
                intro hr
                replace kOw := blk_bel_alloc hr kOw
                replace hx := hx.trans hr
                clear hr
                try simp only [Act.put, List.setIfInBounds_toArray, List.set_cons_zero, List.set_cons_succ]
                refine wpT_call (List.getElem?_toArray.trans (by rfl)) (by rfl) (fun K hK => ?_) ?_
                · skip
                  refine wp_append Try.el23 _ _ rfl W.heap.size _ _ _ rfl (own_ext hN5 (by (repeat (first | (with_reducible exact Ext.refl _) | assumption | (with_reducible refine Ext.alloc ?_ _) | (with_reducible refine Ext.drew ?_) | (with_reducible refine Ext.drewL ?_) | refine Ext.trans ?_ (by assumption))))) _ 1 1 _ rfl (rd_new _ [_, _] 49 1 2 rfl) (by simp [Value.oneCell']) (by omega) (by omega) (by (first | omega | (simp; done) | (simp; omega))) ?_
                  intro A2 c3 w3 hN3 hg3 hat3; replace kOw := kOw.but (but_grown hg3) hoA
                  refine hK _ _ (((But.more (but_grown hg3) hAS).bel _)) ?_
                  clear hK
                  intro hr
                  replace hx := hx.trans hr
                  clear hr
                  try simp only [Act.put, List.setIfInBounds_toArray, List.set_cons_zero, List.set_cons_succ]
                  first
                    | (refine wpT_takeN hx (by simp) (v := ?_) (List.getElem?_toArray.trans (by rfl)) (by rfl) (fun _ hc => ?_) ?_
                       rotate_left
                       focus (go_simp; (try go_ints); exact rfl)
                       simp only [Act.put, List.setIfInBounds_toArray, List.set_cons_zero, List.set_cons_succ])
                    | (refine wpT_skip (List.getElem?_toArray.trans (by rfl)) (by rfl) ?_; simp only [Act.put, List.setIfInBounds_toArray, List.set_cons_zero, List.set_cons_succ])
                  refine wpT_store (List.getElem?_toArray.trans (by rfl)) rfl (by rfl) (fun K hK => ?_) ?_
                  · skip
                    have cOw := kOw.cell; have fOw := kOw.froz
                    go_simp
                    refine hK _ ?_ ?_
                    focus (exact (Bel.setIn (p := ⟨o, 0, none⟩) (Bel.refl _ _ _) hoS _); done)
                    clear hK
                    intro hr
                    replace hx := hx.trans hr
                    clear hr
                    try simp only [Act.put, List.setIfInBounds_toArray, List.set_cons_zero, List.set_cons_succ]
                    refine wpT_done ?_
                    obtain ⟨kO6, hG6⟩ := fin_node (x := x) hG kO (hX5.trans (by (repeat (first | (with_reducible exact Ext.refl _) | assumption | (with_reducible refine Ext.alloc ?_ _) | (with_reducible refine Ext.drew ?_) | (with_reducible refine Ext.drewL ?_) | refine Ext.trans ?_ (by assumption))))) hR1 hD2 hE2 (by (repeat (first | (with_reducible exact Ext.refl _) | assumption | (with_reducible refine Ext.alloc ?_ _) | (with_reducible refine Ext.drew ?_) | (with_reducible refine Ext.drewL ?_) | refine Ext.trans ?_ (by assumption)))) (by (first | omega | (simp; done) | (simp; omega))) (by (first | omega | (simp; done) | (simp; omega))) (by omega) (by simp only [List.length_take]; omega) hN3 hg3 hat3
                    have hE6 := But.ext (hEW.trans hX5) (bel_drew hx).but (fun q hq => (hSW q hq).1)
                    go_wp2_with fail
                    go_roundw
                    case rel => exact ⟨k + 1, _, _, by omega, by go_num, kO6, by rw [List.take_add_one, Hx0.out]; exact hG6, hE6⟩
                    case measure => simp [intOf]; omega
                  exact wpT_none
                exact wpT_none
              exact wpT_none
            refine wpT_call (List.getElem?_toArray.trans (by rfl)) (by rfl) (fun K hK => ?_) ?_
            · skip
              
              go_simp
              first | (refine hK _ _ ?_ ?_; (focus ((repeat (first | (with_reducible exact Bel.refl _ _ _) | assumption | (with_reducible exact Bel.alloc1 (by first | assumption | omega | (simp; omega))) | (with_reducible refine Bel.drew ?_) | (with_reducible refine Bel.drewL ?_) | (with_reducible refine Bel.setCell ?_ ?_ _; rotate_left; (focus (first | omega | (simp; done) | (simp; omega)))) | (with_reducible refine Bel.alloc ?_ _))); done))) | (refine hK undef _ ?_ ?_; (focus ((repeat (first | (with_reducible exact Bel.refl _ _ _) | assumption | (with_reducible exact Bel.alloc1 (by first | assumption | omega | (simp; omega))) | (with_reducible refine Bel.drew ?_) | (with_reducible refine Bel.drewL ?_) | (with_reducible refine Bel.setCell ?_ ?_ _; rotate_left; (focus (first | omega | (simp; done) | (simp; omega)))) | (with_reducible refine Bel.alloc ?_ _))); done)))
              clear hK
              intro hr
              replace kOw := blk_bel_alloc hr kOw
              replace hx := hx.trans hr
              clear hr
              try simp only [Act.put, List.setIfInBounds_toArray, List.set_cons_zero, List.set_cons_succ]
              refine wpT_call (List.getElem?_toArray.trans (by rfl)) (by rfl) (fun K hK => ?_) ?_
              · skip
                have cOw := kOw.cell
                go_simp
                first | (refine hK _ _ ?_ ?_; (focus ((repeat (first | (with_reducible exact Bel.refl _ _ _) | assumption | (with_reducible exact Bel.alloc1 (by first | assumption | omega | (simp; omega))) | (with_reducible refine Bel.drew ?_) | (with_reducible refine Bel.drewL ?_) | (with_reducible refine Bel.setCell ?_ ?_ _; rotate_left; (focus (first | omega | (simp; done) | (simp; omega)))) | (with_reducible refine Bel.alloc ?_ _))); done))) | (refine hK undef _ ?_ ?_; (focus ((repeat (first | (with_reducible exact Bel.refl _ _ _) | assumption | (with_reducible exact Bel.alloc1 (by first | assumption | omega | (simp; omega))) | (with_reducible refine Bel.drew ?_) | (with_reducible refine Bel.drewL ?_) | (with_reducible refine Bel.setCell ?_ ?_ _; rotate_left; (focus (first | omega | (simp; done) | (simp; omega)))) | (with_reducible refine Bel.alloc ?_ _))); done)))
                clear hK
                intro hr
                replace hx := hx.trans hr
                clear hr
                try simp only [Act.put, List.setIfInBounds_toArray, List.set_cons_zero, List.set_cons_succ]
                refine wpT_call (List.getElem?_toArray.trans (by rfl)) (by rfl) (fun K hK => ?_) ?_
                · skip
                  refine wp_append Try.el23 _ _ rfl W.heap.size _ _ _ rfl (own_ext hN5 (by (repeat (first | (with_reducible exact Ext.refl _) | assumption | (with_reducible refine Ext.alloc ?_ _) | (with_reducible refine Ext.drew ?_) | (with_reducible refine Ext.drewL ?_) | refine Ext.trans ?_ (by assumption))))) _ 1 1 _ rfl (rd_new _ [_, _] 49 1 2 rfl) (by simp [Value.oneCell']) (by omega) (by omega) (by (first | omega | (simp; done) | (simp; omega))) ?_
                  intro A2 c3 w3 hN3 hg3 hat3; replace kOw := kOw.but (but_grown hg3) hoA
                  refine hK _ _ (((But.more (but_grown hg3) hAS).bel _)) ?_
                  clear hK
                  intro hr
                  replace hx := hx.trans hr
                  clear hr
                  try simp only [Act.put, List.setIfInBounds_toArray, List.set_cons_zero, List.set_cons_succ]
                  first
                    | (refine wpT_takeN hx (by simp) (v := ?_) (List.getElem?_toArray.trans (by rfl)) (by rfl) (fun _ hc => ?_) ?_
                       rotate_left
                       focus (go_simp; (try go_ints); exact rfl)
                       simp only [Act.put, List.setIfInBounds_toArray, List.set_cons_zero, List.set_cons_succ])
                    | (refine wpT_skip (List.getElem?_toArray.trans (by rfl)) (by rfl) ?_; simp only [Act.put, List.setIfInBounds_toArray, List.set_cons_zero, List.set_cons_succ])
                  refine wpT_store (List.getElem?_toArray.trans (by rfl)) rfl (by rfl) (fun K hK => ?_) ?_
                  · skip
                    have cOw := kOw.cell; have fOw := kOw.froz
                    go_simp
                    refine hK _ ?_ ?_
                    focus (exact (Bel.setIn (p := ⟨o, 0, none⟩) (Bel.refl _ _ _) hoS _); done)
                    clear hK
                    intro hr
                    replace hx := hx.trans hr
                    clear hr
                    try simp only [Act.put, List.setIfInBounds_toArray, List.set_cons_zero, List.set_cons_succ]
                    refine wpT_done ?_
                    obtain ⟨kO6, hG6⟩ := fin_node (x := x) hG kO (hX5.trans (by (repeat (first | (with_reducible exact Ext.refl _) | assumption | (with_reducible refine Ext.alloc ?_ _) | (with_reducible refine Ext.drew ?_) | (with_reducible refine Ext.drewL ?_) | refine Ext.trans ?_ (by assumption))))) hR1 hD2 hE2 (by (repeat (first | (with_reducible exact Ext.refl _) | assumption | (with_reducible refine Ext.alloc ?_ _) | (with_reducible refine Ext.drew ?_) | (with_reducible refine Ext.drewL ?_) | refine Ext.trans ?_ (by assumption)))) (by (first | omega | (simp; done) | (simp; omega))) (by (first | omega | (simp; done) | (simp; omega))) (by omega) (by simp only [List.length_take]; omega) hN3 hg3 hat3
                    have hE6 := But.ext (hEW.trans hX5) (bel_drew hx).but (fun q hq => (hSW q hq).1)
                    go_wp2_with fail
                    go_roundw
                    case rel => exact ⟨k + 1, _, _, by omega, by go_num, kO6, by rw [List.take_add_one, Hx0.out]; exact hG6, hE6⟩
                    case measure => simp [intOf]; omega
                  exact wpT_none
                exact wpT_none
              exact wpT_none
            exact wpT_none
          exact wpT_none
        exact wpT_none
      · have hdec : decide ((k : Int) < g.ns.length) = false := by simp; omega
        have hdec' : decide (k < g.ns.length) = false := by simp; omega
        have hkn : k = g.ns.length := by omega
        rw [hkn, List.take_length] at hG
        have k2' := k2.ext hEW
        have c2 := k2'.cell
        have f2 := k2'.froz
        have l2 := k2'.lt
        obtain ⟨A1, a1, rfl⟩ := own_slice hG.nodes
        go_wp2
        have kF := ((k2'.set_ 0 (.slice A1 g.ns.length a1)).set_ 1 (.slice B1 g.us.length b1')).set_ 2 (.slice C1 g.rs.length c1')
        have cF := kF.cell
        have hfar : ∀ q, kv (.slice A1 g.ns.length a1) (.slice B1 g.us.length b1') (.slice C1 g.rs.length c1') qs q ≠ some (w.heap.size + 1) := fun q hq => by have := (hG.lt q _ hq).1; omega
        have hGF := ((((hG.far (a := ⟨w.heap.size + 1, 0, none⟩) hfar (.slice A1 g.ns.length a1)).far (a := ⟨w.heap.size + 1, 1, none⟩) hfar (.slice B1 g.us.length b1')).far (a := ⟨w.heap.size + 1, 2, none⟩) hfar (.slice C1 g.rs.length c1')).offb (o' := w.heap.size) (by omega)).base_ (base' := w.heap.size) (by omega)
        exact bodyPost_ret (v := .agg #[.slice A1 g.ns.length a1, .slice B1 g.us.length b1', .slice C1 g.rs.length c1']) (by simp [results, Try.results28, go_sem, cF]) rfl ⟨_, _, _, _, rfl, hGF, Ext.setCell (Ext.setCell (Ext.setCell (hX.trans hEW) (by show w.heap.size ≤ w.heap.size + 1; omega) _) (by show w.heap.size ≤ w.heap.size + 1; omega) _) (by show w.heap.size ≤ w.heap.size + 1; omega) _⟩
end Go.Proofs.Ytamghjilcfeheaa
