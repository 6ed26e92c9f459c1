/- The walks of Copy and of the clones. Conditions: the ranges that each theorem states. -/
import Derived.Test.YtamghjilcfeheaaMA
namespace Go.Proofs.Ytamghjilcfeheaa
open Go.RowKit Go.Draw

/-- small enough -/
def Bd (g : Gr) : Prop := g.ns.length ≤ 1000 ∧ g.us.length ≤ 1000 ∧ g.rs.length ≤ 1000 ∧ ∀ (i : Nat) (x : List Int × List Int), g.ns[i]? = some x → x.1.length ≤ 3000 ∧ x.2.length ≤ 3000
theorem blk_of_bel {N : Nat} {S : List Nat} {w : World} {cs : Array Value} {t : TypeId} (_ : Bel N S w (w.alloc (.cells cs t))) : Blk (w.alloc (.cells cs t)) w.heap.size t cs := Blk.new rfl
theorem blk_of_bel2 {N : Nat} {S : List Nat} {w : World} {cs : Array Value} {t : TypeId} (_ : Bel N S w.drew (w.alloc (.cells cs t)).drew) : Blk (w.alloc (.cells cs t)).drew w.heap.size t cs := Blk.drew (Blk.new rfl)
theorem GRd.agg {w : World} {v : Value} {g : Gr} (h : GRd w v g) : ∃ vA vB vC, v = .agg #[vA, vB, vC] := by
  obtain ⟨A, a, B, b, C, c, ps, hv, _⟩ := h
  exact ⟨_, _, _, hv⟩
theorem rd_bel {N : Nat} {S : List Nat} {w w' : World} {A : Option Addr} {n size : Nat} {xs : List Value} (h : Rd w A n size xs) (he : Bel N S w w') (hN : N = w.heap.size) (hS : S = []) : Rd w' A n size xs := by
  subst hN hS
  exact h.ext ⟨he.os, he.tape, he.output, he.size, fun k hk => he.block (Nat.le_refl _) k hk (by simp)⟩
theorem bel_drew {N : Nat} {S : List Nat} {a b : World} (h : Bel N S a.drew b) : Bel N S a b := ⟨h.os, h.tape, h.output, h.size, h.block⟩

def RetG (w : World) (g : Gr) (r : Ending) (w' : World) : Prop := ∃ vA vB vC ps, r = .returned (.agg #[vA, vB, vC]) ∧ GOwn w' w.heap.size w.heap.size vA vB vC ps g ∧ Ext w w'

theorem ext_bel {W wx : World} (h : Bel W.heap.size [] W.drew wx) : Ext W wx := ⟨h.os, h.tape, h.output, h.size, fun k hk => h.block (Nat.le_refl _) k hk (by simp)⟩
theorem fin_copy {W w1 w2 wx : World} {o : Nat} {us : List Bool} {rs : List Int} {vB vC : Value} {b1 b2 : Nat} (hB : w1.ownsRow b1 4 1 vB us.length (vb us)) (hC : w2.ownsRow b2 3 1 vC rs.length (ints rs)) (e1 : But [o] w1 wx) (e2 : But [o] w2 wx)
    (h1 : W.heap.size ≤ b1) (h2 : W.heap.size ≤ b2) (oB : o < b1 ∨ w1.heap.size ≤ o) (oC : o < b2 ∨ w2.heap.size ≤ o) :
    GOwn wx W.heap.size o (.slice none 0 0) vB vC [] ⟨[], us, rs⟩ := by
  have nB : vB.ownBlock ≠ some o := fun e => by have := World.ownsRow.lt hB _ e; omega
  have nC : vC.ownBlock ≠ some o := fun e => by have := World.ownsRow.lt hC _ e; omega
  exact gown_nil (own_base (own_but hB e1 (fun q hq hm => nB (by rw [hq, List.mem_singleton.1 hm]))) h1) (own_base (own_but hC e2 (fun q hq hm => nC (by rw [hq, List.mem_singleton.1 hm]))) h2) nB nC
theorem blk_bel_alloc {N : Nat} {S : List Nat} {w : World} {ob : Obj} {o : Nat} {t : TypeId} {cs : Array Value} (_ : Bel N S w (w.alloc ob)) (k : Blk w o t cs) : Blk (w.alloc ob) o t cs := k.alloc _
theorem But.more {S S' : List Nat} {w w' : World} (h : But S w w') (hs : ∀ q ∈ S, q ∈ S') : But S' w w' := ⟨h.os, h.tape, h.output, h.size, fun k hk hn => h.block k hk (fun hm => hn (hs k hm))⟩
theorem own_apart {w1 w2 : World} {b1 b2 size size' n n' : Nat} {e e' : TypeId} {v v' : Value} {xs xs' : List Value} (h : w1.ownsRow b1 e size v n xs) (h' : w2.ownsRow b2 e' size' v' n' xs') (he : Ext w1 w2) (hne : e ≠ e') (b : Nat) (hb : v.ownBlock = some b) : v'.ownBlock ≠ some b := fun hb' => by
  rcases h.2 with ⟨h0, _⟩ | ⟨q, cap, cur, hv, _, hg, _⟩
  · subst h0; simp [Value.ownBlock] at hb
  · rcases h'.2 with ⟨h0, _⟩ | ⟨q', cap', cur', hv', _, hg', _⟩
    · subst h0; simp [Value.ownBlock] at hb'
    · subst hv hv'
      simp only [Value.ownBlock, Option.some.injEq] at hb hb'
      subst hb; subst hb'
      have hlt := Array.getElem?_eq_some_iff.1 hg
      rw [he.block _ hlt.1, hg] at hg'
      injection hg' with hg'
      injection hg' with _ ht
      exact hne ht
theorem fin_node {wr w1 w2 w3 w4 : World} {base o b1 b2 n : Nat} {vA vB vC vA' vR vD : Value} {ps : List (Value × Value)} {ns : List (List Int × List Int)} {us : List Bool} {rs : List Int} {x : List Int × List Int}
    (hG : GOwn wr base o vA vB vC ps ⟨ns, us, rs⟩) (kO : Blk wr o 26 #[vA, vB, vC]) (e3 : Ext wr w3) (r1 : w1.ownsRow b1 3 1 vR x.1.length (ints x.1)) (r2 : w2.ownsRow b2 31 1 vD x.2.length (words x.2)) (e1 : Ext w1 w2) (e2 : Ext w2 w3)
    (hb1 : wr.heap.size ≤ b1) (hb2 : wr.heap.size ≤ b2) (hbase : base ≤ wr.heap.size) (hn : n = ns.length + 1) (ha : w4.ownsRow base 49 2 vA' n (vals ps ++ [vR, vD])) (hg : w3.grownBy w4 vA.ownBlock) (hat : vA'.ownBlock = vA.ownBlock ∨ vA'.ownBlock = some w3.heap.size) :
    Blk (w4.setCell ⟨o, 0, none⟩ vA') o 26 #[vA', vB, vC] ∧ GOwn (w4.setCell ⟨o, 0, none⟩ vA') base o vA' vB vC (ps ++ [(vR, vD)]) ⟨ns ++ [x], us, rs⟩ := by
  subst hn
  have hol := kO.lt
  have hol3 : o < w3.heap.size := Nat.lt_of_lt_of_le hol e3.size_le
  have s1 := World.ownsRow.lt r1
  have s2 := World.ownsRow.lt r2
  have hG4 := GOwn.push (p := (vR, vD)) (x := x) (hG.ext e3) (own_base (own_ext r1 (e1.trans e2)) (by omega)) (own_base (own_ext r2 e2) (by omega))
    (fun b hb => ⟨by have := s1 b hb; omega, fun k hk => by have := (hG.lt k b hk).2; have := s1 b hb; omega⟩)
    (fun b hb => ⟨by have := s2 b hb; omega, fun k hk => by have := (hG.lt k b hk).2; have := s2 b hb; omega, fun h => own_apart r1 r2 e1 (by decide) b h hb⟩)
    (by simpa using ha) hg hat hol3
  have kO4 : Blk w4 o 26 #[vA, vB, vC] := (kO.ext e3).but (but_grown hg) (fun hm => hG.off .A (by simpa [kv] using hm))
  exact ⟨by simpa using kO4.set_ 0 vA', hG4.far (fun k hk => hG4.off k hk) vA'⟩
set_option maxRecDepth 100000 in
set_option maxHeartbeats 1000000 in
theorem copy_any (v : Value) (g : Gr) (w : World) (hg : GRd w v g) (hb : Bd g) : Calls Try.prog 32 #[v] w (RetG w g) := by
  obtain ⟨A, a, B, b, C, c, ps, rfl, h1, h2, h3, h4⟩ := hg
  have b1 := hb.2.1
  have b2 := hb.2.2.1
  have b3 := hb.1
  have Hb := Lib.hid hb.2.2.2
  clear hb
  go_enter Try.func32, Try.ntmps32
  go_upto_region 1 with fail
  have hX := Ext.alloc (Ext.alloc (Ext.refl w) (.cells #[.slice A g.ns.length a, .slice B g.us.length b, .slice C g.rs.length c] 26)) (.cells #[.slice none 0 0, .slice none 0 0, .slice none 0 0] 26)
  have k1 : Blk ((w.alloc (.cells #[.slice A g.ns.length a, .slice B g.us.length b, .slice C g.rs.length c] 26)).alloc (.cells #[.slice none 0 0, .slice none 0 0, .slice none 0 0] 26)) w.heap.size 26 #[.slice A g.ns.length a, .slice B g.us.length b, .slice C g.rs.length c] := Blk.alloc (Blk.new rfl) _
  have k2 : Blk ((w.alloc (.cells #[.slice A g.ns.length a, .slice B g.us.length b, .slice C g.rs.length c] 26)).alloc (.cells #[.slice none 0 0, .slice none 0 0, .slice none 0 0] 26)) (w.heap.size + 1) 26 #[.slice none 0 0, .slice none 0 0, .slice none 0 0] := Blk.new (by simp)
  generalize hW : (w.alloc (.cells #[.slice A g.ns.length a, .slice B g.us.length b, .slice C g.rs.length c] 26)).alloc (.cells #[.slice none 0 0, .slice none 0 0, .slice none 0 0] 26) = W at hX k1 k2 ⊢
  have hsz : w.heap.size + 2 ≤ W.heap.size := by rw [← hW]; simp
  clear hW
  replace h1 := h1.ext hX
  replace h2 := h2.ext hX
  replace h3 := h3.ext hX
  have m1 := k1.cell
  have l1 := k1.lt
  go_cut [3] (fun t wx => ∃ o vB vC, t = .pointer (some ⟨o, 0, none⟩) ∧ Blk wx o 26 #[.slice none 0 0, vB, vC] ∧ GOwn wx W.heap.size o (.slice none 0 0) vB vC [] ⟨[], g.us, g.rs⟩ ∧ Ext W wx ∧ W.heap.size ≤ o)
  case first =>
    refine wp_region_treeN (W.heap.size) [] (.take 0 (.take 1 (.take 3 (.take 4 (.alt 2 (.alt 5 (.take 6 (.alt 7 (.alt 8 .done .none) .none)) (.alt 7 (.alt 5 (.take 6 (.alt 8 .done .none)) .none) .none)) (.alt 7 (.alt 2 (.alt 5 (.take 6 (.alt 8 .done .none)) .none) .none) .none)))))) Try.mixed (by kernel_rfl) ?_
    intro hx
    first
      | (refine wpT_takeN hx (by simp) (v := ?_) (List.getElem?_toArray.trans (by rfl)) (by rfl) (fun _ hc => ?_) ?_
         rotate_left
         focus (go_simp; (try go_ints); exact rfl)
         simp only [Act.put, List.setIfInBounds_toArray, List.set_cons_zero, List.set_cons_succ])
      | (refine wpT_skip (List.getElem?_toArray.trans (by rfl)) (by rfl) ?_; simp only [Act.put, List.setIfInBounds_toArray, List.set_cons_zero, List.set_cons_succ])
    first
      | (refine wpT_takeN hx (by simp) (v := ?_) (List.getElem?_toArray.trans (by rfl)) (by rfl) (fun _ hc => ?_) ?_
         rotate_left
         focus (go_simp; (try go_ints); exact rfl)
         simp only [Act.put, List.setIfInBounds_toArray, List.set_cons_zero, List.set_cons_succ])
      | (refine wpT_skip (List.getElem?_toArray.trans (by rfl)) (by rfl) ?_; simp only [Act.put, List.setIfInBounds_toArray, List.set_cons_zero, List.set_cons_succ])
    first
      | (refine wpT_takeN hx (by simp) (v := ?_) (List.getElem?_toArray.trans (by rfl)) (by rfl) (fun _ hc => ?_) ?_
         rotate_left
         focus (go_simp; (try go_ints); exact rfl)
         simp only [Act.put, List.setIfInBounds_toArray, List.set_cons_zero, List.set_cons_succ])
      | (refine wpT_skip (List.getElem?_toArray.trans (by rfl)) (by rfl) ?_; simp only [Act.put, List.setIfInBounds_toArray, List.set_cons_zero, List.set_cons_succ])
    first
      | (refine wpT_takeN hx (by simp) (v := ?_) (List.getElem?_toArray.trans (by rfl)) (by rfl) (fun _ hc => ?_) ?_
         rotate_left
         focus (go_simp; (try go_ints); exact rfl)
         simp only [Act.put, List.setIfInBounds_toArray, List.set_cons_zero, List.set_cons_succ])
      | (refine wpT_skip (List.getElem?_toArray.trans (by rfl)) (by rfl) ?_; simp only [Act.put, List.setIfInBounds_toArray, List.set_cons_zero, List.set_cons_succ])
    refine wpT_call (List.getElem?_toArray.trans (by rfl)) (by rfl) (fun K hK => ?_) ?_
    · skip
      refine wp_clone Try.el24 _ _ rfl rfl _ B _ b (vb g.us) rfl (rd_bel h2 (bel_drew hx) rfl rfl) (one_vb g.us) (by omega) (by omega) (Nat.le_refl _) ?_
      intro B' b' w1 hB' hE1; have hz1 := hE1.size_le; (try simp at hz1); try (replace hk5 := hk5.ext hE1)
      refine hK _ _ (((hE1.but _)).bel _) ?_
      clear hK
      intro hr
      replace hx := hx.trans hr
      clear hr
      try simp only [Act.put, List.setIfInBounds_toArray, List.set_cons_zero, List.set_cons_succ]
      refine wpT_call (List.getElem?_toArray.trans (by rfl)) (by rfl) (fun K hK => ?_) ?_
      · skip
        refine wp_clone Try.el22 _ _ rfl rfl _ C _ c (ints g.rs) rfl (rd_bel h3 (bel_drew hx) rfl rfl) (one_ints g.rs) (by omega) (by omega) (Nat.le_refl _) ?_
        intro C' c' w2 hC' hE2; have hz2 := hE2.size_le; (try simp at hz2); try (replace hk5 := hk5.ext hE2)
        refine hK _ _ (((hE2.but _)).bel _) ?_
        clear hK
        intro hr
        replace hx := hx.trans hr
        clear hr
        try simp only [Act.put, List.setIfInBounds_toArray, List.set_cons_zero, List.set_cons_succ]
        first
          | (refine wpT_takeN hx (by simp) (v := ?_) (List.getElem?_toArray.trans (by rfl)) (by rfl) (fun _ hc => ?_) ?_
             rotate_left
             focus (go_simp; (try go_ints); exact rfl)
             simp only [Act.put, List.setIfInBounds_toArray, List.set_cons_zero, List.set_cons_succ])
          | (refine wpT_skip (List.getElem?_toArray.trans (by rfl)) (by rfl) ?_; simp only [Act.put, List.setIfInBounds_toArray, List.set_cons_zero, List.set_cons_succ])
        refine wpT_call (List.getElem?_toArray.trans (by rfl)) (by rfl) (fun K hK => ?_) ?_
        · skip
          
          go_simp
          first | (refine hK _ _ ?_ ?_; (focus ((repeat (first | (with_reducible exact Bel.refl _ _ _) | assumption | (with_reducible exact Bel.alloc1 (by first | assumption | omega | (simp; omega))) | (with_reducible refine Bel.drew ?_) | (with_reducible refine Bel.drewL ?_) | (with_reducible refine Bel.setCell ?_ ?_ _; rotate_left; (focus (first | omega | (simp; done) | (simp; omega)))) | (with_reducible refine Bel.alloc ?_ _))); done))) | (refine hK undef _ ?_ ?_; (focus ((repeat (first | (with_reducible exact Bel.refl _ _ _) | assumption | (with_reducible exact Bel.alloc1 (by first | assumption | omega | (simp; omega))) | (with_reducible refine Bel.drew ?_) | (with_reducible refine Bel.drewL ?_) | (with_reducible refine Bel.setCell ?_ ?_ _; rotate_left; (focus (first | omega | (simp; done) | (simp; omega)))) | (with_reducible refine Bel.alloc ?_ _))); done)))
          clear hK
          intro hr
          (try have hk5 := blk_of_bel hr); (try have hk5 := blk_of_bel2 hr)
          replace hx := hx.trans hr
          clear hr
          try simp only [Act.put, List.setIfInBounds_toArray, List.set_cons_zero, List.set_cons_succ]
          refine wpT_store (List.getElem?_toArray.trans (by rfl)) rfl (by rfl) (fun K hK => ?_) ?_
          · skip
            try (have hc5 := hk5.cell; have hf5 := hk5.froz)
            go_simp
            refine hK _ ?_ ?_
            focus ((repeat (first | (with_reducible exact Bel.refl _ _ _) | assumption | (with_reducible exact Bel.alloc1 (by first | assumption | omega | (simp; omega))) | (with_reducible refine Bel.drew ?_) | (with_reducible refine Bel.drewL ?_) | (with_reducible refine Bel.setCell ?_ ?_ _; rotate_left; (focus (first | omega | (simp; done) | (simp; omega)))) | (with_reducible refine Bel.alloc ?_ _))); done)
            clear hK
            intro hr
            replace hx := hx.trans hr
            clear hr
            try simp only [Act.put, List.setIfInBounds_toArray, List.set_cons_zero, List.set_cons_succ]
            refine wpT_done ?_
            go_wp2
            go_meet
            refine ⟨_, _, _, rfl, ?_, fin_copy hB' hC' (((Ext.trans (by (repeat (first | (with_reducible exact Ext.refl _) | assumption | (with_reducible refine Ext.alloc ?_ _) | (with_reducible refine Ext.drew ?_) | (with_reducible refine Ext.drewL ?_) | refine Ext.trans ?_ (by assumption)))) hE2).but _).trans (by (repeat (first | (with_reducible exact But.refl _ _) | assumption | (with_reducible refine But.drew ?_) | (with_reducible refine But.drewL ?_) | (with_reducible refine But.setCell ?_ ?_ _; rotate_left; (focus (simp; done))) | (with_reducible refine But.setCellL ?_ ?_; rotate_left; (focus (simp; done))) | (with_reducible refine But.alloc2 ?_ ?_; rotate_left; (focus (simp [World.setCell]; done))) | (with_reducible refine But.allocL ?_ ?_ ?_; rotate_left; (focus (simp; done)); (focus (simp; done))) | (with_reducible refine But.alloc ?_ _))))) (by (repeat (first | (with_reducible exact But.refl _ _) | assumption | (with_reducible refine But.drew ?_) | (with_reducible refine But.drewL ?_) | (with_reducible refine But.setCell ?_ ?_ _; rotate_left; (focus (simp; done))) | (with_reducible refine But.setCellL ?_ ?_; rotate_left; (focus (simp; done))) | (with_reducible refine But.alloc2 ?_ ?_; rotate_left; (focus (simp [World.setCell]; done))) | (with_reducible refine But.allocL ?_ ?_ ?_; rotate_left; (focus (simp; done)); (focus (simp; done))) | (with_reducible refine But.alloc ?_ _)))) (by (first | omega | (simp; done) | (simp; omega))) (by (first | omega | (simp; done) | (simp; omega))) (by (first | omega | (simp; done) | (simp; omega))) (by (first | omega | (simp; done) | (simp; omega))), ext_bel hx, by (first | omega | (simp; done) | (simp; omega))⟩
            first
              | exact Blk.new rfl
              | exact ((hk5.set_ 0 _).set_ 1 _).set_ 2 _
          exact wpT_none
        exact wpT_none
      refine wpT_call (List.getElem?_toArray.trans (by rfl)) (by rfl) (fun K hK => ?_) ?_
      · skip
        
        go_simp
        first | (refine hK _ _ ?_ ?_; (focus ((repeat (first | (with_reducible exact Bel.refl _ _ _) | assumption | (with_reducible exact Bel.alloc1 (by first | assumption | omega | (simp; omega))) | (with_reducible refine Bel.drew ?_) | (with_reducible refine Bel.drewL ?_) | (with_reducible refine Bel.setCell ?_ ?_ _; rotate_left; (focus (first | omega | (simp; done) | (simp; omega)))) | (with_reducible refine Bel.alloc ?_ _))); done))) | (refine hK undef _ ?_ ?_; (focus ((repeat (first | (with_reducible exact Bel.refl _ _ _) | assumption | (with_reducible exact Bel.alloc1 (by first | assumption | omega | (simp; omega))) | (with_reducible refine Bel.drew ?_) | (with_reducible refine Bel.drewL ?_) | (with_reducible refine Bel.setCell ?_ ?_ _; rotate_left; (focus (first | omega | (simp; done) | (simp; omega)))) | (with_reducible refine Bel.alloc ?_ _))); done)))
        clear hK
        intro hr
        (try have hk5 := blk_of_bel hr); (try have hk5 := blk_of_bel2 hr)
        replace hx := hx.trans hr
        clear hr
        try simp only [Act.put, List.setIfInBounds_toArray, List.set_cons_zero, List.set_cons_succ]
        refine wpT_call (List.getElem?_toArray.trans (by rfl)) (by rfl) (fun K hK => ?_) ?_
        · skip
          refine wp_clone Try.el22 _ _ rfl rfl _ C _ c (ints g.rs) rfl (rd_bel h3 (bel_drew hx) rfl rfl) (one_ints g.rs) (by omega) (by omega) (Nat.le_refl _) ?_
          intro C' c' w2 hC' hE2; have hz2 := hE2.size_le; (try simp at hz2); try (replace hk5 := hk5.ext hE2)
          refine hK _ _ (((hE2.but _)).bel _) ?_
          clear hK
          intro hr
          replace hx := hx.trans hr
          clear hr
          try simp only [Act.put, List.setIfInBounds_toArray, List.set_cons_zero, List.set_cons_succ]
          first
            | (refine wpT_takeN hx (by simp) (v := ?_) (List.getElem?_toArray.trans (by rfl)) (by rfl) (fun _ hc => ?_) ?_
               rotate_left
               focus (go_simp; (try go_ints); exact rfl)
               simp only [Act.put, List.setIfInBounds_toArray, List.set_cons_zero, List.set_cons_succ])
            | (refine wpT_skip (List.getElem?_toArray.trans (by rfl)) (by rfl) ?_; simp only [Act.put, List.setIfInBounds_toArray, List.set_cons_zero, List.set_cons_succ])
          refine wpT_store (List.getElem?_toArray.trans (by rfl)) rfl (by rfl) (fun K hK => ?_) ?_
          · skip
            try (have hc5 := hk5.cell; have hf5 := hk5.froz)
            go_simp
            refine hK _ ?_ ?_
            focus ((repeat (first | (with_reducible exact Bel.refl _ _ _) | assumption | (with_reducible exact Bel.alloc1 (by first | assumption | omega | (simp; omega))) | (with_reducible refine Bel.drew ?_) | (with_reducible refine Bel.drewL ?_) | (with_reducible refine Bel.setCell ?_ ?_ _; rotate_left; (focus (first | omega | (simp; done) | (simp; omega)))) | (with_reducible refine Bel.alloc ?_ _))); done)
            clear hK
            intro hr
            replace hx := hx.trans hr
            clear hr
            try simp only [Act.put, List.setIfInBounds_toArray, List.set_cons_zero, List.set_cons_succ]
            refine wpT_done ?_
            go_wp2
            go_meet
            refine ⟨_, _, _, rfl, ?_, fin_copy hB' hC' (((Ext.trans (by (repeat (first | (with_reducible exact Ext.refl _) | assumption | (with_reducible refine Ext.alloc ?_ _) | (with_reducible refine Ext.drew ?_) | (with_reducible refine Ext.drewL ?_) | refine Ext.trans ?_ (by assumption)))) hE2).but _).trans (by (repeat (first | (with_reducible exact But.refl _ _) | assumption | (with_reducible refine But.drew ?_) | (with_reducible refine But.drewL ?_) | (with_reducible refine But.setCell ?_ ?_ _; rotate_left; (focus (simp; done))) | (with_reducible refine But.setCellL ?_ ?_; rotate_left; (focus (simp; done))) | (with_reducible refine But.alloc2 ?_ ?_; rotate_left; (focus (simp [World.setCell]; done))) | (with_reducible refine But.allocL ?_ ?_ ?_; rotate_left; (focus (simp; done)); (focus (simp; done))) | (with_reducible refine But.alloc ?_ _))))) (by (repeat (first | (with_reducible exact But.refl _ _) | assumption | (with_reducible refine But.drew ?_) | (with_reducible refine But.drewL ?_) | (with_reducible refine But.setCell ?_ ?_ _; rotate_left; (focus (simp; done))) | (with_reducible refine But.setCellL ?_ ?_; rotate_left; (focus (simp; done))) | (with_reducible refine But.alloc2 ?_ ?_; rotate_left; (focus (simp [World.setCell]; done))) | (with_reducible refine But.allocL ?_ ?_ ?_; rotate_left; (focus (simp; done)); (focus (simp; done))) | (with_reducible refine But.alloc ?_ _)))) (by (first | omega | (simp; done) | (simp; omega))) (by (first | omega | (simp; done) | (simp; omega))) (by (first | omega | (simp; done) | (simp; omega))) (by (first | omega | (simp; done) | (simp; omega))), ext_bel hx, by (first | omega | (simp; done) | (simp; omega))⟩
            first
              | exact Blk.new rfl
              | exact ((hk5.set_ 0 _).set_ 1 _).set_ 2 _
          exact wpT_none
        exact wpT_none
      exact wpT_none
    refine wpT_call (List.getElem?_toArray.trans (by rfl)) (by rfl) (fun K hK => ?_) ?_
    · skip
      
      go_simp
      first | (refine hK _ _ ?_ ?_; (focus ((repeat (first | (with_reducible exact Bel.refl _ _ _) | assumption | (with_reducible exact Bel.alloc1 (by first | assumption | omega | (simp; omega))) | (with_reducible refine Bel.drew ?_) | (with_reducible refine Bel.drewL ?_) | (with_reducible refine Bel.setCell ?_ ?_ _; rotate_left; (focus (first | omega | (simp; done) | (simp; omega)))) | (with_reducible refine Bel.alloc ?_ _))); done))) | (refine hK undef _ ?_ ?_; (focus ((repeat (first | (with_reducible exact Bel.refl _ _ _) | assumption | (with_reducible exact Bel.alloc1 (by first | assumption | omega | (simp; omega))) | (with_reducible refine Bel.drew ?_) | (with_reducible refine Bel.drewL ?_) | (with_reducible refine Bel.setCell ?_ ?_ _; rotate_left; (focus (first | omega | (simp; done) | (simp; omega)))) | (with_reducible refine Bel.alloc ?_ _))); done)))
      clear hK
      intro hr
      (try have hk5 := blk_of_bel hr); (try have hk5 := blk_of_bel2 hr)
      replace hx := hx.trans hr
      clear hr
      try simp only [Act.put, List.setIfInBounds_toArray, List.set_cons_zero, List.set_cons_succ]
      refine wpT_call (List.getElem?_toArray.trans (by rfl)) (by rfl) (fun K hK => ?_) ?_
      · skip
        refine wp_clone Try.el24 _ _ rfl rfl _ B _ b (vb g.us) rfl (rd_bel h2 (bel_drew hx) rfl rfl) (one_vb g.us) (by omega) (by omega) (Nat.le_refl _) ?_
        intro B' b' w1 hB' hE1; have hz1 := hE1.size_le; (try simp at hz1); try (replace hk5 := hk5.ext hE1)
        refine hK _ _ (((hE1.but _)).bel _) ?_
        clear hK
        intro hr
        replace hx := hx.trans hr
        clear hr
        try simp only [Act.put, List.setIfInBounds_toArray, List.set_cons_zero, List.set_cons_succ]
        refine wpT_call (List.getElem?_toArray.trans (by rfl)) (by rfl) (fun K hK => ?_) ?_
        · skip
          refine wp_clone Try.el22 _ _ rfl rfl _ C _ c (ints g.rs) rfl (rd_bel h3 (bel_drew hx) rfl rfl) (one_ints g.rs) (by omega) (by omega) (Nat.le_refl _) ?_
          intro C' c' w2 hC' hE2; have hz2 := hE2.size_le; (try simp at hz2); try (replace hk5 := hk5.ext hE2)
          refine hK _ _ (((hE2.but _)).bel _) ?_
          clear hK
          intro hr
          replace hx := hx.trans hr
          clear hr
          try simp only [Act.put, List.setIfInBounds_toArray, List.set_cons_zero, List.set_cons_succ]
          first
            | (refine wpT_takeN hx (by simp) (v := ?_) (List.getElem?_toArray.trans (by rfl)) (by rfl) (fun _ hc => ?_) ?_
               rotate_left
               focus (go_simp; (try go_ints); exact rfl)
               simp only [Act.put, List.setIfInBounds_toArray, List.set_cons_zero, List.set_cons_succ])
            | (refine wpT_skip (List.getElem?_toArray.trans (by rfl)) (by rfl) ?_; simp only [Act.put, List.setIfInBounds_toArray, List.set_cons_zero, List.set_cons_succ])
          refine wpT_store (List.getElem?_toArray.trans (by rfl)) rfl (by rfl) (fun K hK => ?_) ?_
          · skip
            try (have hc5 := hk5.cell; have hf5 := hk5.froz)
            go_simp
            refine hK _ ?_ ?_
            focus ((repeat (first | (with_reducible exact Bel.refl _ _ _) | assumption | (with_reducible exact Bel.alloc1 (by first | assumption | omega | (simp; omega))) | (with_reducible refine Bel.drew ?_) | (with_reducible refine Bel.drewL ?_) | (with_reducible refine Bel.setCell ?_ ?_ _; rotate_left; (focus (first | omega | (simp; done) | (simp; omega)))) | (with_reducible refine Bel.alloc ?_ _))); done)
            clear hK
            intro hr
            replace hx := hx.trans hr
            clear hr
            try simp only [Act.put, List.setIfInBounds_toArray, List.set_cons_zero, List.set_cons_succ]
            refine wpT_done ?_
            go_wp2
            go_meet
            refine ⟨_, _, _, rfl, ?_, fin_copy hB' hC' (((Ext.trans (by (repeat (first | (with_reducible exact Ext.refl _) | assumption | (with_reducible refine Ext.alloc ?_ _) | (with_reducible refine Ext.drew ?_) | (with_reducible refine Ext.drewL ?_) | refine Ext.trans ?_ (by assumption)))) hE2).but _).trans (by (repeat (first | (with_reducible exact But.refl _ _) | assumption | (with_reducible refine But.drew ?_) | (with_reducible refine But.drewL ?_) | (with_reducible refine But.setCell ?_ ?_ _; rotate_left; (focus (simp; done))) | (with_reducible refine But.setCellL ?_ ?_; rotate_left; (focus (simp; done))) | (with_reducible refine But.alloc2 ?_ ?_; rotate_left; (focus (simp [World.setCell]; done))) | (with_reducible refine But.allocL ?_ ?_ ?_; rotate_left; (focus (simp; done)); (focus (simp; done))) | (with_reducible refine But.alloc ?_ _))))) (by (repeat (first | (with_reducible exact But.refl _ _) | assumption | (with_reducible refine But.drew ?_) | (with_reducible refine But.drewL ?_) | (with_reducible refine But.setCell ?_ ?_ _; rotate_left; (focus (simp; done))) | (with_reducible refine But.setCellL ?_ ?_; rotate_left; (focus (simp; done))) | (with_reducible refine But.alloc2 ?_ ?_; rotate_left; (focus (simp [World.setCell]; done))) | (with_reducible refine But.allocL ?_ ?_ ?_; rotate_left; (focus (simp; done)); (focus (simp; done))) | (with_reducible refine But.alloc ?_ _)))) (by (first | omega | (simp; done) | (simp; omega))) (by (first | omega | (simp; done) | (simp; omega))) (by (first | omega | (simp; done) | (simp; omega))) (by (first | omega | (simp; done) | (simp; omega))), ext_bel hx, by (first | omega | (simp; done) | (simp; omega))⟩
            first
              | exact Blk.new rfl
              | exact ((hk5.set_ 0 _).set_ 1 _).set_ 2 _
          exact wpT_none
        exact wpT_none
      exact wpT_none
    exact wpT_none
  case rest =>
    obtain ⟨o, vB, vC, rfl, kO, hG, hEW, hoW⟩ := hcut
    obtain ⟨B1, b1', rfl⟩ := own_slice hG.used
    obtain ⟨C1, c1', rfl⟩ := own_slice hG.roots
    have lO := kO.lt
    have cO := kO.cell
    have k1' := k1.ext hEW
    have m1' := k1'.cell
    have l1' := k1'.lt
    clear m1
    go_wp2_with fail
    go_loopw [16] (fun i wr => ∃ (k : Nat) (vA : Value) (qs : List (Value × Value)), k ≤ g.ns.length ∧ i = .int .i64 k ∧ Blk wr o 26 #[vA, .slice B1 g.us.length b1', .slice C1 g.rs.length c1'] ∧ GOwn wr W.heap.size o vA (.slice B1 g.us.length b1') (.slice C1 g.rs.length c1') qs ⟨g.ns.take k, g.us, g.rs⟩ ∧ Ext W wr) (fun i _ => g.ns.length - (intOf i).toNat)
    case atStart => exact ⟨0, _, _, by omega, rfl, kO, hG, hEW⟩
    case round =>
      clear kO hG hEW lO cO k1' m1' l1'
      obtain ⟨k, vA, qs, hk, rfl, kO, hG, hEW⟩ := hrel
      have cO := kO.cell
      have fO := kO.froz
      have lO := kO.lt
      by_cases hlt : k < g.ns.length
      · have hdec : decide ((k : Int) < g.ns.length) = true := by simp; omega
        have hdec' : decide (k < g.ns.length) = true := by simp; omega
        have hkb : (k : Int) < g.ns.length := by omega
        obtain ⟨x, hx0⟩ : ∃ x, g.ns[k]? = some x := ⟨_, List.getElem?_eq_getElem hlt⟩
        have hpl : ps.length = g.ns.length := by have := h1.1; rw [vals_len] at this; omega
        obtain ⟨p, hp0⟩ : ∃ p, ps[k]? = some p := ⟨_, List.getElem?_eq_getElem (by omega)⟩
        obtain ⟨R, c1, D, c2, rfl, hR, hD⟩ := h4 k p x hp0 hx0
        obtain ⟨ba, oa, rfl, hca⟩ := (h1.ext hEW).2 (by omega)
        have q0 := hca _ _ (vals_at ps k _ hp0).1
        have q1 := hca _ _ (vals_at ps k _ hp0).2
        rw [← Nat.add_assoc] at q1
        simp only at q0 q1
        have lq := cell_lt q0
        obtain ⟨x1, x2⟩ := Hb.out k x hx0
        have hR' := hR.ext (hX.trans hEW)
        have hD' := hD.ext (hX.trans hEW)
        clear hca hp0 hR hD h1
        have Hx0 := Lib.hid hx0
        have Hl := Lib.hid hpl
        clear hx0 hpl
        have hN := hG.nodes
        simp only [List.length_take, Nat.min_eq_left hk] at hN
        obtain ⟨A1, a1, rfl⟩ := own_slice hN
        go_upto_region 5 with fail
        have hX5 := Ext.alloc (Ext.refl wr) (.cells #[.slice R x.1.length c1, .slice D x.2.length c2] 49)
        have k5 : Blk (wr.alloc (.cells #[.slice R x.1.length c1, .slice D x.2.length c2] 49)) wr.heap.size 49 #[.slice R x.1.length c1, .slice D x.2.length c2] := Blk.new rfl
        generalize hW5 : wr.alloc (.cells #[.slice R x.1.length c1, .slice D x.2.length c2] 49) = W5 at hX5 k5 ⊢
        clear hW5
        have m5 := k5.cell
        have l5 := k5.lt
        have hR5 := hR'.ext hX5
        have hD5 := hD'.ext hX5
        have hN5 := own_ext hN hX5
        have kOw : Blk W5.drew o 26 #[.slice A1 k a1, .slice B1 g.us.length b1', .slice C1 g.rs.length c1'] := (kO.ext hX5).drew
        obtain ⟨S, hS⟩ : ∃ S : List Nat, S = o :: (Value.slice A1 k a1).ownBlock.toList := ⟨_, rfl⟩
        have hoS : o ∈ S := by rw [hS]; simp
        have hAS : ∀ q ∈ (Value.slice A1 k a1).ownBlock.toList, q ∈ S := fun q hq => by rw [hS]; exact List.mem_cons_of_mem _ hq
        have hoA : o ∉ (Value.slice A1 k a1).ownBlock.toList := fun hm => hG.off .A (by simpa [kv] using hm)
        have hSW : ∀ q ∈ S, W.heap.size ≤ q ∧ q < wr.heap.size := fun q hq => by
          rw [hS, List.mem_cons] at hq
          rcases hq with rfl | hq
          · exact ⟨hoW, lO⟩
          · exact hG.lt .A q (by simpa [kv] using hq)
        have hnS : wr.heap.size ∉ S := fun hm => by have := (hSW _ hm).2; omega
        have hEs := hEW.size_le
        have hz5 := hX5.size_le
        clear hS hR' hD' cO fO k5 q0 q1
        refine wp_region_treeN (W5.heap.size) S (.take 0 (.take 2 (.take 3 (.take 5 (.take 6 (.alt 1 (.alt 4 (.alt 7 (.take 8 (.alt 9 (.alt 10 (.take 11 (.alt 12 .done .none)) .none) .none)) .none) .none) (.alt 4 (.alt 1 (.alt 7 (.take 8 (.alt 9 (.alt 10 (.take 11 (.alt 12 .done .none)) .none) .none)) .none) (.alt 7 (.take 8 (.alt 1 (.alt 9 (.alt 10 (.take 11 (.alt 12 .done .none)) .none) .none) (.alt 9 (.alt 1 (.alt 10 (.take 11 (.alt 12 .done .none)) .none) .none) .none))) .none)) .none))))))) Try.mixed (by kernel_rfl) ?_
        intro hx
        first
          | (refine wpT_takeN hx (by simp) (v := ?_) (List.getElem?_toArray.trans (by rfl)) (by rfl) (fun _ hc => ?_) ?_
             rotate_left
             focus (go_simp; (try go_ints); exact rfl)
             simp only [Act.put, List.setIfInBounds_toArray, List.set_cons_zero, List.set_cons_succ])
          | (refine wpT_skip (List.getElem?_toArray.trans (by rfl)) (by rfl) ?_; simp only [Act.put, List.setIfInBounds_toArray, List.set_cons_zero, List.set_cons_succ])
        first
          | (refine wpT_takeN hx (by simp) (v := ?_) (List.getElem?_toArray.trans (by rfl)) (by rfl) (fun _ hc => ?_) ?_
             rotate_left
             focus (go_simp; (try go_ints); exact rfl)
             simp only [Act.put, List.setIfInBounds_toArray, List.set_cons_zero, List.set_cons_succ])
          | (refine wpT_skip (List.getElem?_toArray.trans (by rfl)) (by rfl) ?_; simp only [Act.put, List.setIfInBounds_toArray, List.set_cons_zero, List.set_cons_succ])
        first
          | (refine wpT_takeN hx (by simp) (v := ?_) (List.getElem?_toArray.trans (by rfl)) (by rfl) (fun _ hc => ?_) ?_
             rotate_left
             focus (go_simp; (try go_ints); exact rfl)
             simp only [Act.put, List.setIfInBounds_toArray, List.set_cons_zero, List.set_cons_succ])
          | (refine wpT_skip (List.getElem?_toArray.trans (by rfl)) (by rfl) ?_; simp only [Act.put, List.setIfInBounds_toArray, List.set_cons_zero, List.set_cons_succ])
        first
          | (refine wpT_takeN hx (by simp) (v := ?_) (List.getElem?_toArray.trans (by rfl)) (by rfl) (fun _ hc => ?_) ?_
             rotate_left
             focus (go_simp; (try go_ints); exact rfl)
             simp only [Act.put, List.setIfInBounds_toArray, List.set_cons_zero, List.set_cons_succ])
          | (refine wpT_skip (List.getElem?_toArray.trans (by rfl)) (by rfl) ?_; simp only [Act.put, List.setIfInBounds_toArray, List.set_cons_zero, List.set_cons_succ])
        first
          | (refine wpT_takeN hx (by simp) (v := ?_) (List.getElem?_toArray.trans (by rfl)) (by rfl) (fun _ hc => ?_) ?_
             rotate_left
             focus (go_simp; (try go_ints); exact rfl)
             simp only [Act.put, List.setIfInBounds_toArray, List.set_cons_zero, List.set_cons_succ])
          | (refine wpT_skip (List.getElem?_toArray.trans (by rfl)) (by rfl) ?_; simp only [Act.put, List.setIfInBounds_toArray, List.set_cons_zero, List.set_cons_succ])
        refine wpT_call (List.getElem?_toArray.trans (by rfl)) (by rfl) (fun K hK => ?_) ?_
        · skip
          have cOw := kOw.cell
          go_simp
          first | (refine hK _ _ ?_ ?_; (focus ((repeat (first | (with_reducible exact Bel.refl _ _ _) | assumption | (with_reducible exact Bel.alloc1 (by first | assumption | omega | (simp; omega))) | (with_reducible refine Bel.drew ?_) | (with_reducible refine Bel.drewL ?_) | (with_reducible refine Bel.setCell ?_ ?_ _; rotate_left; (focus (first | omega | (simp; done) | (simp; omega)))) | (with_reducible refine Bel.alloc ?_ _))); done))) | (refine hK undef _ ?_ ?_; (focus ((repeat (first | (with_reducible exact Bel.refl _ _ _) | assumption | (with_reducible exact Bel.alloc1 (by first | assumption | omega | (simp; omega))) | (with_reducible refine Bel.drew ?_) | (with_reducible refine Bel.drewL ?_) | (with_reducible refine Bel.setCell ?_ ?_ _; rotate_left; (focus (first | omega | (simp; done) | (simp; omega)))) | (with_reducible refine Bel.alloc ?_ _))); done)))
          clear hK
          intro hr
          replace hx := hx.trans hr
          clear hr
          try simp only [Act.put, List.setIfInBounds_toArray, List.set_cons_zero, List.set_cons_succ]
          refine wpT_call (List.getElem?_toArray.trans (by rfl)) (by rfl) (fun K hK => ?_) ?_
          · skip
            refine wp_clone Try.el22 _ _ rfl rfl _ R _ c1 (ints x.1) rfl (hR5.ext (by (repeat (first | (with_reducible exact Ext.refl _) | assumption | (with_reducible refine Ext.alloc ?_ _) | (with_reducible refine Ext.drew ?_) | (with_reducible refine Ext.drewL ?_) | refine Ext.trans ?_ (by assumption))))) (one_ints x.1) (by omega) (by omega) (Nat.le_refl _) ?_
            intro R' c1' w1 hR1 hE1; have hz1 := hE1.size_le; (try simp at hz1); replace kOw := kOw.ext hE1
            refine hK _ _ (((hE1.but _)).bel _) ?_
            clear hK
            intro hr
            replace hx := hx.trans hr
            clear hr
            try simp only [Act.put, List.setIfInBounds_toArray, List.set_cons_zero, List.set_cons_succ]
            refine wpT_call (List.getElem?_toArray.trans (by rfl)) (by rfl) (fun K hK => ?_) ?_
            · skip
              refine wp_clone Try.el47 _ _ rfl rfl _ D _ c2 (words x.2) rfl (hD5.ext (by (repeat (first | (with_reducible exact Ext.refl _) | assumption | (with_reducible refine Ext.alloc ?_ _) | (with_reducible refine Ext.drew ?_) | (with_reducible refine Ext.drewL ?_) | refine Ext.trans ?_ (by assumption))))) (one_words x.2) (by omega) (by omega) (Nat.le_refl _) ?_
              intro D' c2' w2 hD2 hE2; have hz2 := hE2.size_le; (try simp at hz2); replace kOw := kOw.ext hE2
              refine hK _ _ (((hE2.but _)).bel _) ?_
              clear hK
              intro hr
              replace hx := hx.trans hr
              clear hr
              try simp only [Act.put, List.setIfInBounds_toArray, List.set_cons_zero, List.set_cons_succ]
              first
                | (refine wpT_takeN hx (by simp) (v := ?_) (List.getElem?_toArray.trans (by rfl)) (by rfl) (fun _ hc => ?_) ?_
                   rotate_left
                   focus (go_simp; (try go_ints); exact rfl)
                   simp only [Act.put, List.setIfInBounds_toArray, List.set_cons_zero, List.set_cons_succ])
                | (refine wpT_skip (List.getElem?_toArray.trans (by rfl)) (by rfl) ?_; simp only [Act.put, List.setIfInBounds_toArray, List.set_cons_zero, List.set_cons_succ])
              refine wpT_call (List.getElem?_toArray.trans (by rfl)) (by rfl) (fun K hK => ?_) ?_
              · skip
                
                go_simp
                first | (refine hK _ _ ?_ ?_; (focus ((repeat (first | (with_reducible exact Bel.refl _ _ _) | assumption | (with_reducible exact Bel.alloc1 (by first | assumption | omega | (simp; omega))) | (with_reducible refine Bel.drew ?_) | (with_reducible refine Bel.drewL ?_) | (with_reducible refine Bel.setCell ?_ ?_ _; rotate_left; (focus (first | omega | (simp; done) | (simp; omega)))) | (with_reducible refine Bel.alloc ?_ _))); done))) | (refine hK undef _ ?_ ?_; (focus ((repeat (first | (with_reducible exact Bel.refl _ _ _) | assumption | (with_reducible exact Bel.alloc1 (by first | assumption | omega | (simp; omega))) | (with_reducible refine Bel.drew ?_) | (with_reducible refine Bel.drewL ?_) | (with_reducible refine Bel.setCell ?_ ?_ _; rotate_left; (focus (first | omega | (simp; done) | (simp; omega)))) | (with_reducible refine Bel.alloc ?_ _))); done)))
                clear hK
                intro hr
                replace kOw := blk_bel_alloc hr kOw
                replace hx := hx.trans hr
                clear hr
                try simp only [Act.put, List.setIfInBounds_toArray, List.set_cons_zero, List.set_cons_succ]
                refine wpT_call (List.getElem?_toArray.trans (by rfl)) (by rfl) (fun K hK => ?_) ?_
                · skip
                  refine wp_append Try.el23 _ _ rfl W.heap.size _ _ _ rfl (own_ext hN5 (by (repeat (first | (with_reducible exact Ext.refl _) | assumption | (with_reducible refine Ext.alloc ?_ _) | (with_reducible refine Ext.drew ?_) | (with_reducible refine Ext.drewL ?_) | refine Ext.trans ?_ (by assumption))))) _ 1 1 _ rfl (rd_new _ [_, _] 49 1 2 rfl) (by simp [Value.oneCell']) (by omega) (by omega) (by (first | omega | (simp; done) | (simp; omega))) ?_
                  intro A2 c3 w3 hN3 hg3 hat3; replace kOw := kOw.but (but_grown hg3) hoA
                  refine hK _ _ (((But.more (but_grown hg3) hAS).bel _)) ?_
                  clear hK
                  intro hr
                  replace hx := hx.trans hr
                  clear hr
                  try simp only [Act.put, List.setIfInBounds_toArray, List.set_cons_zero, List.set_cons_succ]
                  first
                    | (refine wpT_takeN hx (by simp) (v := ?_) (List.getElem?_toArray.trans (by rfl)) (by rfl) (fun _ hc => ?_) ?_
                       rotate_left
                       focus (go_simp; (try go_ints); exact rfl)
                       simp only [Act.put, List.setIfInBounds_toArray, List.set_cons_zero, List.set_cons_succ])
                    | (refine wpT_skip (List.getElem?_toArray.trans (by rfl)) (by rfl) ?_; simp only [Act.put, List.setIfInBounds_toArray, List.set_cons_zero, List.set_cons_succ])
                  refine wpT_store (List.getElem?_toArray.trans (by rfl)) rfl (by rfl) (fun K hK => ?_) ?_
                  · skip
                    have cOw := kOw.cell; have fOw := kOw.froz
                    go_simp
                    refine hK _ ?_ ?_
                    focus (exact (Bel.setIn (p := ⟨o, 0, none⟩) (Bel.refl _ _ _) hoS _); done)
                    clear hK
                    intro hr
                    replace hx := hx.trans hr
                    clear hr
                    try simp only [Act.put, List.setIfInBounds_toArray, List.set_cons_zero, List.set_cons_succ]
                    refine wpT_done ?_
                    obtain ⟨kO6, hG6⟩ := fin_node (x := x) hG kO (hX5.trans (by (repeat (first | (with_reducible exact Ext.refl _) | assumption | (with_reducible refine Ext.alloc ?_ _) | (with_reducible refine Ext.drew ?_) | (with_reducible refine Ext.drewL ?_) | refine Ext.trans ?_ (by assumption))))) hR1 hD2 hE2 (by (repeat (first | (with_reducible exact Ext.refl _) | assumption | (with_reducible refine Ext.alloc ?_ _) | (with_reducible refine Ext.drew ?_) | (with_reducible refine Ext.drewL ?_) | refine Ext.trans ?_ (by assumption)))) (by (first | omega | (simp; done) | (simp; omega))) (by (first | omega | (simp; done) | (simp; omega))) (by omega) (by simp only [List.length_take]; omega) hN3 hg3 hat3
                    have hE6 := But.ext (hEW.trans hX5) (bel_drew hx).but (fun q hq => (hSW q hq).1)
                    go_wp2_with fail
                    go_roundw
                    case rel => exact ⟨k + 1, _, _, by omega, by go_num, kO6, by rw [List.take_add_one, Hx0.out]; exact hG6, hE6⟩
                    case measure => simp [intOf]; omega
                  exact wpT_none
                exact wpT_none
              exact wpT_none
            exact wpT_none
          exact wpT_none
        refine wpT_call (List.getElem?_toArray.trans (by rfl)) (by rfl) (fun K hK => ?_) ?_
        · skip
          refine wp_clone Try.el22 _ _ rfl rfl _ R _ c1 (ints x.1) rfl (hR5.ext (by (repeat (first | (with_reducible exact Ext.refl _) | assumption | (with_reducible refine Ext.alloc ?_ _) | (with_reducible refine Ext.drew ?_) | (with_reducible refine Ext.drewL ?_) | refine Ext.trans ?_ (by assumption))))) (one_ints x.1) (by omega) (by omega) (Nat.le_refl _) ?_
          intro R' c1' w1 hR1 hE1; have hz1 := hE1.size_le; (try simp at hz1); replace kOw := kOw.ext hE1
          refine hK _ _ (((hE1.but _)).bel _) ?_
          clear hK
          intro hr
          replace hx := hx.trans hr
          clear hr
          try simp only [Act.put, List.setIfInBounds_toArray, List.set_cons_zero, List.set_cons_succ]
          refine wpT_call (List.getElem?_toArray.trans (by rfl)) (by rfl) (fun K hK => ?_) ?_
          · skip
            have cOw := kOw.cell
            go_simp
            first | (refine hK _ _ ?_ ?_; (focus ((repeat (first | (with_reducible exact Bel.refl _ _ _) | assumption | (with_reducible exact Bel.alloc1 (by first | assumption | omega | (simp; omega))) | (with_reducible refine Bel.drew ?_) | (with_reducible refine Bel.drewL ?_) | (with_reducible refine Bel.setCell ?_ ?_ _; rotate_left; (focus (first | omega | (simp; done) | (simp; omega)))) | (with_reducible refine Bel.alloc ?_ _))); done))) | (refine hK undef _ ?_ ?_; (focus ((repeat (first | (with_reducible exact Bel.refl _ _ _) | assumption | (with_reducible exact Bel.alloc1 (by first | assumption | omega | (simp; omega))) | (with_reducible refine Bel.drew ?_) | (with_reducible refine Bel.drewL ?_) | (with_reducible refine Bel.setCell ?_ ?_ _; rotate_left; (focus (first | omega | (simp; done) | (simp; omega)))) | (with_reducible refine Bel.alloc ?_ _))); done)))
            clear hK
            intro hr
            replace hx := hx.trans hr
            clear hr
            try simp only [Act.put, List.setIfInBounds_toArray, List.set_cons_zero, List.set_cons_succ]
            refine wpT_call (List.getElem?_toArray.trans (by rfl)) (by rfl) (fun K hK => ?_) ?_
            · skip
              refine wp_clone Try.el47 _ _ rfl rfl _ D _ c2 (words x.2) rfl (hD5.ext (by (repeat (first | (with_reducible exact Ext.refl _) | assumption | (with_reducible refine Ext.alloc ?_ _) | (with_reducible refine Ext.drew ?_) | (with_reducible refine Ext.drewL ?_) | refine Ext.trans ?_ (by assumption))))) (one_words x.2) (by omega) (by omega) (Nat.le_refl _) ?_
              intro D' c2' w2 hD2 hE2; have hz2 := hE2.size_le; (try simp at hz2); replace kOw := kOw.ext hE2
              refine hK _ _ (((hE2.but _)).bel _) ?_
              clear hK
              intro hr
              replace hx := hx.trans hr
              clear hr
              try simp only [Act.put, List.setIfInBounds_toArray, List.set_cons_zero, List.set_cons_succ]
              first
                | (refine wpT_takeN hx (by simp) (v := ?_) (List.getElem?_toArray.trans (by rfl)) (by rfl) (fun _ hc => ?_) ?_
                   rotate_left
                   focus (go_simp; (try go_ints); exact rfl)
                   simp only [Act.put, List.setIfInBounds_toArray, List.set_cons_zero, List.set_cons_succ])
                | (refine wpT_skip (List.getElem?_toArray.trans (by rfl)) (by rfl) ?_; simp only [Act.put, List.setIfInBounds_toArray, List.set_cons_zero, List.set_cons_succ])
              refine wpT_call (List.getElem?_toArray.trans (by rfl)) (by rfl) (fun K hK => ?_) ?_
              · skip
                
                go_simp
                first | (refine hK _ _ ?_ ?_; (focus ((repeat (first | (with_reducible exact Bel.refl _ _ _) | assumption | (with_reducible exact Bel.alloc1 (by first | assumption | omega | (simp; omega))) | (with_reducible refine Bel.drew ?_) | (with_reducible refine Bel.drewL ?_) | (with_reducible refine Bel.setCell ?_ ?_ _; rotate_left; (focus (first | omega | (simp; done) | (simp; omega)))) | (with_reducible refine Bel.alloc ?_ _))); done))) | (refine hK undef _ ?_ ?_; (focus ((repeat (first | (with_reducible exact Bel.refl _ _ _) | assumption | (with_reducible exact Bel.alloc1 (by first | assumption | omega | (simp; omega))) | (with_reducible refine Bel.drew ?_) | (with_reducible refine Bel.drewL ?_) | (with_reducible refine Bel.setCell ?_ ?_ _; rotate_left; (focus (first | omega | (simp; done) | (simp; omega)))) | (with_reducible refine Bel.alloc ?_ _))); done)))
                clear hK
                intro hr
                replace kOw := blk_bel_alloc hr kOw
                replace hx := hx.trans hr
                clear hr
                try simp only [Act.put, List.setIfInBounds_toArray, List.set_cons_zero, List.set_cons_succ]
                refine wpT_call (List.getElem?_toArray.trans (by rfl)) (by rfl) (fun K hK => ?_) ?_
                · skip
                  refine wp_append Try.el23 _ _ rfl W.heap.size _ _ _ rfl (own_ext hN5 (by (repeat (first | (with_reducible exact Ext.refl _) | assumption | (with_reducible refine Ext.alloc ?_ _) | (with_reducible refine Ext.drew ?_) | (with_reducible refine Ext.drewL ?_) | refine Ext.trans ?_ (by assumption))))) _ 1 1 _ rfl (rd_new _ [_, _] 49 1 2 rfl) (by simp [Value.oneCell']) (by omega) (by omega) (by (first | omega | (simp; done) | (simp; omega))) ?_
                  intro A2 c3 w3 hN3 hg3 hat3; replace kOw := kOw.but (but_grown hg3) hoA
                  refine hK _ _ (((But.more (but_grown hg3) hAS).bel _)) ?_
                  clear hK
                  intro hr
                  replace hx := hx.trans hr
                  clear hr
                  try simp only [Act.put, List.setIfInBounds_toArray, List.set_cons_zero, List.set_cons_succ]
                  first
                    | (refine wpT_takeN hx (by simp) (v := ?_) (List.getElem?_toArray.trans (by rfl)) (by rfl) (fun _ hc => ?_) ?_
                       rotate_left
                       focus (go_simp; (try go_ints); exact rfl)
                       simp only [Act.put, List.setIfInBounds_toArray, List.set_cons_zero, List.set_cons_succ])
                    | (refine wpT_skip (List.getElem?_toArray.trans (by rfl)) (by rfl) ?_; simp only [Act.put, List.setIfInBounds_toArray, List.set_cons_zero, List.set_cons_succ])
                  refine wpT_store (List.getElem?_toArray.trans (by rfl)) rfl (by rfl) (fun K hK => ?_) ?_
                  · skip
                    have cOw := kOw.cell; have fOw := kOw.froz
                    go_simp
                    refine hK _ ?_ ?_
                    focus (exact (Bel.setIn (p := ⟨o, 0, none⟩) (Bel.refl _ _ _) hoS _); done)
                    clear hK
                    intro hr
                    replace hx := hx.trans hr
                    clear hr
                    try simp only [Act.put, List.setIfInBounds_toArray, List.set_cons_zero, List.set_cons_succ]
                    refine wpT_done ?_
                    obtain ⟨kO6, hG6⟩ := fin_node (x := x) hG kO (hX5.trans (by (repeat (first | (with_reducible exact Ext.refl _) | assumption | (with_reducible refine Ext.alloc ?_ _) | (with_reducible refine Ext.drew ?_) | (with_reducible refine Ext.drewL ?_) | refine Ext.trans ?_ (by assumption))))) hR1 hD2 hE2 (by (repeat (first | (with_reducible exact Ext.refl _) | assumption | (with_reducible refine Ext.alloc ?_ _) | (with_reducible refine Ext.drew ?_) | (with_reducible refine Ext.drewL ?_) | refine Ext.trans ?_ (by assumption)))) (by (first | omega | (simp; done) | (simp; omega))) (by (first | omega | (simp; done) | (simp; omega))) (by omega) (by simp only [List.length_take]; omega) hN3 hg3 hat3
                    have hE6 := But.ext (hEW.trans hX5) (bel_drew hx).but (fun q hq => (hSW q hq).1)
                    go_wp2_with fail
                    go_roundw
                    case rel => exact ⟨k + 1, _, _, by omega, by go_num, kO6, by rw [List.take_add_one, Hx0.out]; exact hG6, hE6⟩
                    case measure => simp [intOf]; omega
                  exact wpT_none
                exact wpT_none
              exact wpT_none
            exact wpT_none
          refine wpT_call (List.getElem?_toArray.trans (by rfl)) (by rfl) (fun K hK => ?_) ?_
          · skip
            refine wp_clone Try.el47 _ _ rfl rfl _ D _ c2 (words x.2) rfl (hD5.ext (by (repeat (first | (with_reducible exact Ext.refl _) | assumption | (with_reducible refine Ext.alloc ?_ _) | (with_reducible refine Ext.drew ?_) | (with_reducible refine Ext.drewL ?_) | refine Ext.trans ?_ (by assumption))))) (one_words x.2) (by omega) (by omega) (Nat.le_refl _) ?_
            intro D' c2' w2 hD2 hE2; have hz2 := hE2.size_le; (try simp at hz2); replace kOw := kOw.ext hE2
            refine hK _ _ (((hE2.but _)).bel _) ?_
            clear hK
            intro hr
            replace hx := hx.trans hr
            clear hr
            try simp only [Act.put, List.setIfInBounds_toArray, List.set_cons_zero, List.set_cons_succ]
            first
              | (refine wpT_takeN hx (by simp) (v := ?_) (List.getElem?_toArray.trans (by rfl)) (by rfl) (fun _ hc => ?_) ?_
                 rotate_left
                 focus (go_simp; (try go_ints); exact rfl)
                 simp only [Act.put, List.setIfInBounds_toArray, List.set_cons_zero, List.set_cons_succ])
              | (refine wpT_skip (List.getElem?_toArray.trans (by rfl)) (by rfl) ?_; simp only [Act.put, List.setIfInBounds_toArray, List.set_cons_zero, List.set_cons_succ])
            refine wpT_call (List.getElem?_toArray.trans (by rfl)) (by rfl) (fun K hK => ?_) ?_
            · skip
              have cOw := kOw.cell
              go_simp
              first | (refine hK _ _ ?_ ?_; (focus ((repeat (first | (with_reducible exact Bel.refl _ _ _) | assumption | (with_reducible exact Bel.alloc1 (by first | assumption | omega | (simp; omega))) | (with_reducible refine Bel.drew ?_) | (with_reducible refine Bel.drewL ?_) | (with_reducible refine Bel.setCell ?_ ?_ _; rotate_left; (focus (first | omega | (simp; done) | (simp; omega)))) | (with_reducible refine Bel.alloc ?_ _))); done))) | (refine hK undef _ ?_ ?_; (focus ((repeat (first | (with_reducible exact Bel.refl _ _ _) | assumption | (with_reducible exact Bel.alloc1 (by first | assumption | omega | (simp; omega))) | (with_reducible refine Bel.drew ?_) | (with_reducible refine Bel.drewL ?_) | (with_reducible refine Bel.setCell ?_ ?_ _; rotate_left; (focus (first | omega | (simp; done) | (simp; omega)))) | (with_reducible refine Bel.alloc ?_ _))); done)))
              clear hK
              intro hr
              replace hx := hx.trans hr
              clear hr
              try simp only [Act.put, List.setIfInBounds_toArray, List.set_cons_zero, List.set_cons_succ]
              refine wpT_call (List.getElem?_toArray.trans (by rfl)) (by rfl) (fun K hK => ?_) ?_
              · skip
                
                go_simp
                first | (refine hK _ _ ?_ ?_; (focus ((repeat (first | (with_reducible exact Bel.refl _ _ _) | assumption | (with_reducible exact Bel.alloc1 (by first | assumption | omega | (simp; omega))) | (with_reducible refine Bel.drew ?_) | (with_reducible refine Bel.drewL ?_) | (with_reducible refine Bel.setCell ?_ ?_ _; rotate_left; (focus (first | omega | (simp; done) | (simp; omega)))) | (with_reducible refine Bel.alloc ?_ _))); done))) | (refine hK undef _ ?_ ?_; (focus ((repeat (first | (with_reducible exact Bel.refl _ _ _) | assumption | (with_reducible exact Bel.alloc1 (by first | assumption | omega | (simp; omega))) | (with_reducible refine Bel.drew ?_) | (with_reducible refine Bel.drewL ?_) | (with_reducible refine Bel.setCell ?_ ?_ _; rotate_left; (focus (first | omega | (simp; done) | (simp; omega)))) | (with_reducible refine Bel.alloc ?_ _))); done)))
                clear hK
                intro hr
                replace kOw := blk_bel_alloc hr kOw
                replace hx := hx.trans hr
                clear hr
                try simp only [Act.put, List.setIfInBounds_toArray, List.set_cons_zero, List.set_cons_succ]
                refine wpT_call (List.getElem?_toArray.trans (by rfl)) (by rfl) (fun K hK => ?_) ?_
                · skip
                  refine wp_append Try.el23 _ _ rfl W.heap.size _ _ _ rfl (own_ext hN5 (by (repeat (first | (with_reducible exact Ext.refl _) | assumption | (with_reducible refine Ext.alloc ?_ _) | (with_reducible refine Ext.drew ?_) | (with_reducible refine Ext.drewL ?_) | refine Ext.trans ?_ (by assumption))))) _ 1 1 _ rfl (rd_new _ [_, _] 49 1 2 rfl) (by simp [Value.oneCell']) (by omega) (by omega) (by (first | omega | (simp; done) | (simp; omega))) ?_
                  intro A2 c3 w3 hN3 hg3 hat3; replace kOw := kOw.but (but_grown hg3) hoA
                  refine hK _ _ (((But.more (but_grown hg3) hAS).bel _)) ?_
                  clear hK
                  intro hr
                  replace hx := hx.trans hr
                  clear hr
                  try simp only [Act.put, List.setIfInBounds_toArray, List.set_cons_zero, List.set_cons_succ]
                  first
                    | (refine wpT_takeN hx (by simp) (v := ?_) (List.getElem?_toArray.trans (by rfl)) (by rfl) (fun _ hc => ?_) ?_
                       rotate_left
                       focus (go_simp; (try go_ints); exact rfl)
                       simp only [Act.put, List.setIfInBounds_toArray, List.set_cons_zero, List.set_cons_succ])
                    | (refine wpT_skip (List.getElem?_toArray.trans (by rfl)) (by rfl) ?_; simp only [Act.put, List.setIfInBounds_toArray, List.set_cons_zero, List.set_cons_succ])
                  refine wpT_store (List.getElem?_toArray.trans (by rfl)) rfl (by rfl) (fun K hK => ?_) ?_
                  · skip
                    have cOw := kOw.cell; have fOw := kOw.froz
                    go_simp
                    refine hK _ ?_ ?_
                    focus (exact (Bel.setIn (p := ⟨o, 0, none⟩) (Bel.refl _ _ _) hoS _); done)
                    clear hK
                    intro hr
                    replace hx := hx.trans hr
                    clear hr
                    try simp only [Act.put, List.setIfInBounds_toArray, List.set_cons_zero, List.set_cons_succ]
                    refine wpT_done ?_
                    obtain ⟨kO6, hG6⟩ := fin_node (x := x) hG kO (hX5.trans (by (repeat (first | (with_reducible exact Ext.refl _) | assumption | (with_reducible refine Ext.alloc ?_ _) | (with_reducible refine Ext.drew ?_) | (with_reducible refine Ext.drewL ?_) | refine Ext.trans ?_ (by assumption))))) hR1 hD2 hE2 (by (repeat (first | (with_reducible exact Ext.refl _) | assumption | (with_reducible refine Ext.alloc ?_ _) | (with_reducible refine Ext.drew ?_) | (with_reducible refine Ext.drewL ?_) | refine Ext.trans ?_ (by assumption)))) (by (first | omega | (simp; done) | (simp; omega))) (by (first | omega | (simp; done) | (simp; omega))) (by omega) (by simp only [List.length_take]; omega) hN3 hg3 hat3
                    have hE6 := But.ext (hEW.trans hX5) (bel_drew hx).but (fun q hq => (hSW q hq).1)
                    go_wp2_with fail
                    go_roundw
                    case rel => exact ⟨k + 1, _, _, by omega, by go_num, kO6, by rw [List.take_add_one, Hx0.out]; exact hG6, hE6⟩
                    case measure => simp [intOf]; omega
                  exact wpT_none
                exact wpT_none
              exact wpT_none
            refine wpT_call (List.getElem?_toArray.trans (by rfl)) (by rfl) (fun K hK => ?_) ?_
            · skip
              
              go_simp
              first | (refine hK _ _ ?_ ?_; (focus ((repeat (first | (with_reducible exact Bel.refl _ _ _) | assumption | (with_reducible exact Bel.alloc1 (by first | assumption | omega | (simp; omega))) | (with_reducible refine Bel.drew ?_) | (with_reducible refine Bel.drewL ?_) | (with_reducible refine Bel.setCell ?_ ?_ _; rotate_left; (focus (first | omega | (simp; done) | (simp; omega)))) | (with_reducible refine Bel.alloc ?_ _))); done))) | (refine hK undef _ ?_ ?_; (focus ((repeat (first | (with_reducible exact Bel.refl _ _ _) | assumption | (with_reducible exact Bel.alloc1 (by first | assumption | omega | (simp; omega))) | (with_reducible refine Bel.drew ?_) | (with_reducible refine Bel.drewL ?_) | (with_reducible refine Bel.setCell ?_ ?_ _; rotate_left; (focus (first | omega | (simp; done) | (simp; omega)))) | (with_reducible refine Bel.alloc ?_ _))); done)))
              clear hK
              intro hr
              replace kOw := blk_bel_alloc hr kOw
              replace hx := hx.trans hr
              clear hr
              try simp only [Act.put, List.setIfInBounds_toArray, List.set_cons_zero, List.set_cons_succ]
              refine wpT_call (List.getElem?_toArray.trans (by rfl)) (by rfl) (fun K hK => ?_) ?_
              · skip
                have cOw := kOw.cell
                go_simp
                first | (refine hK _ _ ?_ ?_; (focus ((repeat (first | (with_reducible exact Bel.refl _ _ _) | assumption | (with_reducible exact Bel.alloc1 (by first | assumption | omega | (simp; omega))) | (with_reducible refine Bel.drew ?_) | (with_reducible refine Bel.drewL ?_) | (with_reducible refine Bel.setCell ?_ ?_ _; rotate_left; (focus (first | omega | (simp; done) | (simp; omega)))) | (with_reducible refine Bel.alloc ?_ _))); done))) | (refine hK undef _ ?_ ?_; (focus ((repeat (first | (with_reducible exact Bel.refl _ _ _) | assumption | (with_reducible exact Bel.alloc1 (by first | assumption | omega | (simp; omega))) | (with_reducible refine Bel.drew ?_) | (with_reducible refine Bel.drewL ?_) | (with_reducible refine Bel.setCell ?_ ?_ _; rotate_left; (focus (first | omega | (simp; done) | (simp; omega)))) | (with_reducible refine Bel.alloc ?_ _))); done)))
                clear hK
                intro hr
                replace hx := hx.trans hr
                clear hr
                try simp only [Act.put, List.setIfInBounds_toArray, List.set_cons_zero, List.set_cons_succ]
                refine wpT_call (List.getElem?_toArray.trans (by rfl)) (by rfl) (fun K hK => ?_) ?_
                · skip
                  refine wp_append Try.el23 _ _ rfl W.heap.size _ _ _ rfl (own_ext hN5 (by (repeat (first | (with_reducible exact Ext.refl _) | assumption | (with_reducible refine Ext.alloc ?_ _) | (with_reducible refine Ext.drew ?_) | (with_reducible refine Ext.drewL ?_) | refine Ext.trans ?_ (by assumption))))) _ 1 1 _ rfl (rd_new _ [_, _] 49 1 2 rfl) (by simp [Value.oneCell']) (by omega) (by omega) (by (first | omega | (simp; done) | (simp; omega))) ?_
                  intro A2 c3 w3 hN3 hg3 hat3; replace kOw := kOw.but (but_grown hg3) hoA
                  refine hK _ _ (((But.more (but_grown hg3) hAS).bel _)) ?_
                  clear hK
                  intro hr
                  replace hx := hx.trans hr
                  clear hr
                  try simp only [Act.put, List.setIfInBounds_toArray, List.set_cons_zero, List.set_cons_succ]
                  first
                    | (refine wpT_takeN hx (by simp) (v := ?_) (List.getElem?_toArray.trans (by rfl)) (by rfl) (fun _ hc => ?_) ?_
                       rotate_left
                       focus (go_simp; (try go_ints); exact rfl)
                       simp only [Act.put, List.setIfInBounds_toArray, List.set_cons_zero, List.set_cons_succ])
                    | (refine wpT_skip (List.getElem?_toArray.trans (by rfl)) (by rfl) ?_; simp only [Act.put, List.setIfInBounds_toArray, List.set_cons_zero, List.set_cons_succ])
                  refine wpT_store (List.getElem?_toArray.trans (by rfl)) rfl (by rfl) (fun K hK => ?_) ?_
                  · skip
                    have cOw := kOw.cell; have fOw := kOw.froz
                    go_simp
                    refine hK _ ?_ ?_
                    focus (exact (Bel.setIn (p := ⟨o, 0, none⟩) (Bel.refl _ _ _) hoS _); done)
                    clear hK
                    intro hr
                    replace hx := hx.trans hr
                    clear hr
                    try simp only [Act.put, List.setIfInBounds_toArray, List.set_cons_zero, List.set_cons_succ]
                    refine wpT_done ?_
                    obtain ⟨kO6, hG6⟩ := fin_node (x := x) hG kO (hX5.trans (by (repeat (first | (with_reducible exact Ext.refl _) | assumption | (with_reducible refine Ext.alloc ?_ _) | (with_reducible refine Ext.drew ?_) | (with_reducible refine Ext.drewL ?_) | refine Ext.trans ?_ (by assumption))))) hR1 hD2 hE2 (by (repeat (first | (with_reducible exact Ext.refl _) | assumption | (with_reducible refine Ext.alloc ?_ _) | (with_reducible refine Ext.drew ?_) | (with_reducible refine Ext.drewL ?_) | refine Ext.trans ?_ (by assumption)))) (by (first | omega | (simp; done) | (simp; omega))) (by (first | omega | (simp; done) | (simp; omega))) (by omega) (by simp only [List.length_take]; omega) hN3 hg3 hat3
                    have hE6 := But.ext (hEW.trans hX5) (bel_drew hx).but (fun q hq => (hSW q hq).1)
                    go_wp2_with fail
                    go_roundw
                    case rel => exact ⟨k + 1, _, _, by omega, by go_num, kO6, by rw [List.take_add_one, Hx0.out]; exact hG6, hE6⟩
                    case measure => simp [intOf]; omega
                  exact wpT_none
                exact wpT_none
              exact wpT_none
            exact wpT_none
          exact wpT_none
        exact wpT_none
      · have hdec : decide ((k : Int) < g.ns.length) = false := by simp; omega
        have hdec' : decide (k < g.ns.length) = false := by simp; omega
        have hkn : k = g.ns.length := by omega
        rw [hkn, List.take_length] at hG
        have k2' := k2.ext hEW
        have c2 := k2'.cell
        have f2 := k2'.froz
        have l2 := k2'.lt
        obtain ⟨A1, a1, rfl⟩ := own_slice hG.nodes
        go_wp2
        have kF := ((k2'.set_ 0 (.slice A1 g.ns.length a1)).set_ 1 (.slice B1 g.us.length b1')).set_ 2 (.slice C1 g.rs.length c1')
        have cF := kF.cell
        have hfar : ∀ q, kv (.slice A1 g.ns.length a1) (.slice B1 g.us.length b1') (.slice C1 g.rs.length c1') qs q ≠ some (w.heap.size + 1) := fun q hq => by have := (hG.lt q _ hq).1; omega
        have hGF := ((((hG.far (a := ⟨w.heap.size + 1, 0, none⟩) hfar (.slice A1 g.ns.length a1)).far (a := ⟨w.heap.size + 1, 1, none⟩) hfar (.slice B1 g.us.length b1')).far (a := ⟨w.heap.size + 1, 2, none⟩) hfar (.slice C1 g.rs.length c1')).offb (o' := w.heap.size) (by omega)).base_ (base' := w.heap.size) (by omega)
        exact bodyPost_ret (v := .agg #[.slice A1 g.ns.length a1, .slice B1 g.us.length b1', .slice C1 g.rs.length c1']) (by simp [results, Try.results32, go_sem, cF]) rfl ⟨_, _, _, _, rfl, hGF, Ext.setCell (Ext.setCell (Ext.setCell (hX.trans hEW) (by show w.heap.size ≤ w.heap.size + 1; omega) _) (by show w.heap.size ≤ w.heap.size + 1; omega) _) (by show w.heap.size ≤ w.heap.size + 1; omega) _⟩
end Go.Proofs.Ytamghjilcfeheaa
