/- The walk of the model's alloc. Conditions: the ranges that each theorem states. -/
import Derived.Test.YtamghjilcfeheaaBB
import Derived.Test.YtamghjilcfeheaaR
namespace Go.Proofs.Ytamghjilcfeheaa
open Go.RowKit Go.Draw

set_option maxHeartbeats 1000000 in
theorem alloc40_size (base M o : Nat) (g : Gr) (c a b d : Int) (w : World) (h : GSt base M o w g) (hc : a < 0 ∨ 15 < a ∨ b < 0 ∨ 32 < b) :
    Calls Try.prog 40 #[.pointer (some ⟨o, 0, none⟩), .agg #[.int .i64 c, .int .i64 a, .int .i64 b, .int .i64 d]] w fun r w' => r = .returned (.tuple #[.int .u64 0, .int .i64 13]) ∧ Ext w w' := by
  have H : ∃ x1 x2 x3 x4 : Bool, decide (a < 0) = x1 ∧ decide (15 < a) = x2 ∧ decide (b < 0) = x3 ∧ decide (32 < b) = x4 ∧ (x1 || x2 || x3 || x4) = true := ⟨_, _, _, _, rfl, rfl, rfl, rfl, by simp; omega⟩
  clear hc
  obtain ⟨x1, x2, x3, x4, q1, q2, q3, q4, hq⟩ := H
  cases x1 <;> cases x2 <;> cases x3 <;> cases x4 <;> simp only [Bool.or_true, Bool.or_false, Bool.true_or, Bool.false_or, Bool.false_eq_true] at hq
  all_goals
    go_enter Try.func40, Try.ntmps40
    go_wp2
    go_ret2
    exact ⟨rfl, by (repeat (first | (with_reducible exact Ext.refl _) | assumption | (with_reducible refine Ext.alloc ?_ _) | (with_reducible refine Ext.drew ?_) | (with_reducible refine Ext.drewL ?_) | refine Ext.trans ?_ (by assumption)))⟩
set_option maxHeartbeats 1000000 in
theorem alloc40_full (base M o : Nat) (g : Gr) (p q : Nat) (c d : Int) (w : World) (h : GSt base M o w g) (hp : p ≤ 15) (hq : q ≤ 32) (hlu : g.us.length = 32) (hf : ¬ freeT g.us < 32) :
    Calls Try.prog 40 #[.pointer (some ⟨o, 0, none⟩), .agg #[.int .i64 c, .int .i64 p, .int .i64 q, .int .i64 d]] w fun r w' => r = .returned (.tuple #[.int .u64 0, .int .i64 15]) ∧ Ext w w' := by
  have h' := h
  obtain ⟨vA, vB, vC, ps, kO, hG, _⟩ := h'
  obtain ⟨A1, a1, rfl⟩ := own_slice hG.nodes
  have cO := kO.cell
  have lO := kO.lt
  have s1 : decide ((p : Int) < 0) = false := by simp
  have s2 : decide ((q : Int) < 0) = false := by simp
  have s3 : decide (15 < (p : Int)) = false := by simp; omega
  have s4 : decide (32 < (q : Int)) = false := by simp; omega
  have s5 : decide (15 < p) = false := by simp; omega
  have s6 : decide (32 < q) = false := by simp; omega
  go_enter Try.func40, Try.ntmps40
  go_wp2_with (first | (go_at_call 44; refine (take44_none base M o g _ _ (h.ext (by (repeat (first | (with_reducible exact Ext.refl _) | assumption | (with_reducible refine Ext.alloc ?_ _) | (with_reducible refine Ext.drew ?_) | (with_reducible refine Ext.drewL ?_) | refine Ext.trans ?_ (by assumption))))) hlu hf).mono ?_; rintro e w1 ⟨rfl, hE⟩))
  go_ret2
  exact ⟨rfl, by (repeat (first | (with_reducible exact Ext.refl _) | assumption | (with_reducible refine Ext.alloc ?_ _) | (with_reducible refine Ext.drew ?_) | (with_reducible refine Ext.drewL ?_) | refine Ext.trans ?_ (by assumption)))⟩

theorem mk_fin {W w1 wx : World} {b bR b1 p : Nat} {e : TypeId} {cR : Array Value} {l : List Value} (hR : w1.ownsRow b1 e 1 (.slice (some ⟨bR, 0, none⟩) p p) p cR.toList) (hc : cR = l.toArray)
    (e1 : But [b] w1 wx) (nR : bR ≠ b) (h1 : W.heap.size ≤ b1) : wx.ownsRow W.heap.size e 1 (.slice (some ⟨bR, 0, none⟩) p p) p l := by
  subst hc
  simp only at hR
  exact own_base (own_but hR e1 (fun g hg hm => by simp only [Value.ownBlock, Option.some.injEq] at hg; have := List.mem_singleton.1 hm; omega)) h1
structure MkS (W wx : World) (p q b : Nat) (A : Option Addr) (c : Nat) (B : Option Addr) (d : Nat) : Prop where
  k : Blk wx b 49 #[.slice A p c, .slice B q d]
  r : wx.ownsRow W.heap.size 3 1 (.slice A p c) p (List.replicate p (.int .i64 0))
  d : wx.ownsRow W.heap.size 31 1 (.slice B q d) q (words (List.replicate q 0))
  le : W.heap.size ≤ b
theorem mks_fin {W w1 w2 wx : World} {p q b bR b1 bD b2 : Nat} {cR cD : Array Value} (k : Blk wx b 49 #[.slice (some ⟨bR, 0, none⟩) p p, .slice (some ⟨bD, 0, none⟩) q q])
    (hR : w1.ownsRow b1 3 1 (.slice (some ⟨bR, 0, none⟩) p p) p cR.toList) (hcR : cR = (List.replicate p (Value.int .i64 0)).toArray) (hD : w2.ownsRow b2 31 1 (.slice (some ⟨bD, 0, none⟩) q q) q cD.toList) (hcD : cD = (List.replicate q (Value.int .u64 0)).toArray)
    (e1 : But [b] w1 wx) (e2 : But [b] w2 wx) (nR : bR ≠ b) (nD : bD ≠ b) (h1 : W.heap.size ≤ b1) (h2 : W.heap.size ≤ b2) (h3 : W.heap.size ≤ b) : MkS W wx p q b (some ⟨bR, 0, none⟩) p (some ⟨bD, 0, none⟩) q :=
  ⟨k, mk_fin hR hcR e1 nR h1, by have := mk_fin hD hcD e2 nD h2; simpa [words] using this, h3⟩
theorem words_zero (q : Nat) : words (List.replicate q 0) = List.replicate q (Value.int .u64 0) := by simp [words]
def mdp (p k : Nat) : List Int := List.replicate k (-1) ++ List.replicate (p - k) 0
theorem mdp_len {p k : Nat} (h : k ≤ p) : (mdp p k).length = p := by simp [mdp]; omega
theorem mdp_set {p k : Nat} (h : k < p) : (mdp p k).set k (-1) = mdp p (k + 1) := by
  unfold mdp
  rw [List.set_append_right _ _ (by simp)]
  simp only [List.length_replicate, Nat.sub_self]
  rw [show p - k = (p - (k + 1)) + 1 by omega, List.replicate_succ, List.set_cons_zero, List.replicate_succ', List.append_assoc]
  rfl
set_option maxRecDepth 100000 in
set_option maxHeartbeats 4000000 in
theorem alloc40_some (base M o f : Nat) (g : Gr) (p q : Nat) (c d : Int) (w : World) (h : GSt base M o w g) (hp : p ≤ 15) (hq : q ≤ 32) (hlu : g.us.length = 32) (hlr : g.rs.length = 32) (hn : g.ns.length ≤ 1000) (hfe : freeT g.us = f) (hf : f < 32) (hMw : M ≤ w.heap.size) :
    Calls Try.prog 40 #[.pointer (some ⟨o, 0, none⟩), .agg #[.int .i64 c, .int .i64 p, .int .i64 q, .int .i64 d]] w fun r w' => r = .returned (.tuple #[.int .u64 ((f : Int) + 1), .int .i64 0]) ∧
      GSt base w'.heap.size o w' ⟨g.ns ++ [(List.replicate p (-1), List.replicate q 0)], g.us.set f true, g.rs.set f g.ns.length⟩ ∧ Fr base M w w' := by
  have h' := h
  obtain ⟨vA, vB, vC, ps, kO, hG, _⟩ := h'
  obtain ⟨A1, a1, rfl⟩ := own_slice hG.nodes
  have cO := kO.cell
  have lO := kO.lt
  obtain ⟨cR, hcR⟩ : ∃ cR, cR = (List.replicate p (Value.int .i64 0)).toArray := ⟨_, rfl⟩
  obtain ⟨cD, hcD⟩ : ∃ cD, cD = (List.replicate q (Value.int .u64 0)).toArray := ⟨_, rfl⟩
  have mR : ∀ W : World, (Instr.makeSlice 22 (.int .i64 p) (.int .i64 p)).run Try.prog W = .ok (.slice (some ⟨W.heap.size, 0, none⟩) p p) (W.alloc (.cells cR 3)) := fun W => by rw [hcR]; exact run_mk Try.el22 rfl p (by omega) (by omega) W
  have mD : ∀ W : World, (Instr.makeSlice 47 (.int .i64 q) (.int .i64 q)).run Try.prog W = .ok (.slice (some ⟨W.heap.size, 0, none⟩) q q) (W.alloc (.cells cD 31)) := fun W => by rw [hcD]; exact run_mk Try.el47 rfl q (by omega) (by omega) W
  have zR : cR.size = p := by rw [hcR]; simp
  have zD : cD.size = q := by rw [hcD]; simp
  have HR := Lib.hid hcR
  have HD := Lib.hid hcD
  clear hcR hcD
  have s1 : decide ((p : Int) < 0) = false := by simp
  have s2 : decide ((q : Int) < 0) = false := by simp
  have s3 : decide (15 < (p : Int)) = false := by simp; omega
  have s4 : decide (32 < (q : Int)) = false := by simp; omega
  have s5 : decide (15 < p) = false := by simp; omega
  have s6 : decide (32 < q) = false := by simp; omega
  go_enter Try.func40, Try.ntmps40
  have k3 : Blk (w.alloc (.cells #[.int .i64 c, .int .i64 p, .int .i64 q, .int .i64 d] 37)) w.heap.size 37 #[.int .i64 c, .int .i64 p, .int .i64 q, .int .i64 d] := Blk.new rfl
  go_upto_region 6 with (first | (go_at_call 44; refine (take44_some base M o f g _ _ (h.ext (by (repeat (first | (with_reducible exact Ext.refl _) | assumption | (with_reducible refine Ext.alloc ?_ _) | (with_reducible refine Ext.drew ?_) | (with_reducible refine Ext.drewL ?_) | refine Ext.trans ?_ (by assumption))))) hlu hlr hfe hf).mono ?_; rintro e w1 ⟨rfl, hG1, hB1⟩))
  have k3' := hB1.blk k3 (.inl (by omega))
  have m3 := k3'.cell
  have l3 := k3'.lt
  have hF : Fr base M w w1 := (Fr.of_ext (Ext.alloc (Ext.refl _) _)).trans hB1
  have hgo := hG1
  obtain ⟨vA, vB, vC, ps, kO, hG, hM, hbo⟩ := hgo
  clear cO lO
  go_cut [8] (fun t wx => ∃ b A c' B d', t = .pointer (some ⟨b, 0, none⟩) ∧ MkS w1 wx p q b A c' B d' ∧ Ext w1 wx)
  case first =>
    refine wp_region_treeN (w1.heap.size) [] (.take 0 (.take 1 (.take 3 (.take 4 (.alt 2 (.alt 5 (.take 6 (.alt 7 (.alt 8 .done .none) .none)) (.alt 7 (.alt 5 (.take 6 (.alt 8 .done .none)) .none) .none)) (.alt 5 (.alt 2 (.take 6 (.alt 7 (.alt 8 .done .none) .none)) (.alt 7 (.alt 2 (.take 6 (.alt 8 .done .none)) .none) .none)) (.alt 7 (.alt 2 (.alt 5 (.take 6 (.alt 8 .done .none)) .none) (.alt 5 (.alt 2 (.take 6 (.alt 8 .done .none)) .none) .none)) .none))))))) Try.mixed (by kernel_rfl) ?_
    intro hx
    first
      | (refine wpT_takeN hx (by simp) (v := ?_) (List.getElem?_toArray.trans (by rfl)) (by rfl) (fun _ hc => ?_) ?_
         rotate_left
         focus (go_simp; (try go_ints); exact rfl)
         simp only [Act.put, List.setIfInBounds_toArray, List.set_cons_zero, List.set_cons_succ])
      | (refine wpT_skip (List.getElem?_toArray.trans (by rfl)) (by rfl) ?_; simp only [Act.put, List.setIfInBounds_toArray, List.set_cons_zero, List.set_cons_succ])
    first
      | (refine wpT_takeN hx (by simp) (v := ?_) (List.getElem?_toArray.trans (by rfl)) (by rfl) (fun _ hc => ?_) ?_
         rotate_left
         focus (go_simp; (try go_ints); exact rfl)
         simp only [Act.put, List.setIfInBounds_toArray, List.set_cons_zero, List.set_cons_succ])
      | (refine wpT_skip (List.getElem?_toArray.trans (by rfl)) (by rfl) ?_; simp only [Act.put, List.setIfInBounds_toArray, List.set_cons_zero, List.set_cons_succ])
    first
      | (refine wpT_takeN hx (by simp) (v := ?_) (List.getElem?_toArray.trans (by rfl)) (by rfl) (fun _ hc => ?_) ?_
         rotate_left
         focus (go_simp; (try go_ints); exact rfl)
         simp only [Act.put, List.setIfInBounds_toArray, List.set_cons_zero, List.set_cons_succ])
      | (refine wpT_skip (List.getElem?_toArray.trans (by rfl)) (by rfl) ?_; simp only [Act.put, List.setIfInBounds_toArray, List.set_cons_zero, List.set_cons_succ])
    first
      | (refine wpT_takeN hx (by simp) (v := ?_) (List.getElem?_toArray.trans (by rfl)) (by rfl) (fun _ hc => ?_) ?_
         rotate_left
         focus (go_simp; (try go_ints); exact rfl)
         simp only [Act.put, List.setIfInBounds_toArray, List.set_cons_zero, List.set_cons_succ])
      | (refine wpT_skip (List.getElem?_toArray.trans (by rfl)) (by rfl) ?_; simp only [Act.put, List.setIfInBounds_toArray, List.set_cons_zero, List.set_cons_succ])
    refine wpT_call (List.getElem?_toArray.trans (by rfl)) (by rfl) (fun K hK => ?_) ?_
    · skip
      
      go_simp
      first | (refine hK _ _ ?_ ?_; (focus ((repeat (first | (with_reducible exact Bel.refl _ _ _) | assumption | (with_reducible exact Bel.alloc1 (by first | assumption | omega | (simp; omega))) | (with_reducible refine Bel.drew ?_) | (with_reducible refine Bel.drewL ?_) | (with_reducible refine Bel.setCell ?_ ?_ _; rotate_left; (focus (first | omega | (simp; done) | (simp; omega)))) | (with_reducible refine Bel.alloc ?_ _))); done))) | (refine hK undef _ ?_ ?_; (focus ((repeat (first | (with_reducible exact Bel.refl _ _ _) | assumption | (with_reducible exact Bel.alloc1 (by first | assumption | omega | (simp; omega))) | (with_reducible refine Bel.drew ?_) | (with_reducible refine Bel.drewL ?_) | (with_reducible refine Bel.setCell ?_ ?_ _; rotate_left; (focus (first | omega | (simp; done) | (simp; omega)))) | (with_reducible refine Bel.alloc ?_ _))); done)))
      clear hK
      intro hr
      (first | have hR := own_bel2 (n := p) hr (by omega) zR | have hR := own_bel (n := p) hr (by omega) zR)
      replace hx := hx.trans hr
      clear hr
      try simp only [Act.put, List.setIfInBounds_toArray, List.set_cons_zero, List.set_cons_succ]
      refine wpT_call (List.getElem?_toArray.trans (by rfl)) (by rfl) (fun K hK => ?_) ?_
      · skip
        
        go_simp
        first | (refine hK _ _ ?_ ?_; (focus ((repeat (first | (with_reducible exact Bel.refl _ _ _) | assumption | (with_reducible exact Bel.alloc1 (by first | assumption | omega | (simp; omega))) | (with_reducible refine Bel.drew ?_) | (with_reducible refine Bel.drewL ?_) | (with_reducible refine Bel.setCell ?_ ?_ _; rotate_left; (focus (first | omega | (simp; done) | (simp; omega)))) | (with_reducible refine Bel.alloc ?_ _))); done))) | (refine hK undef _ ?_ ?_; (focus ((repeat (first | (with_reducible exact Bel.refl _ _ _) | assumption | (with_reducible exact Bel.alloc1 (by first | assumption | omega | (simp; omega))) | (with_reducible refine Bel.drew ?_) | (with_reducible refine Bel.drewL ?_) | (with_reducible refine Bel.setCell ?_ ?_ _; rotate_left; (focus (first | omega | (simp; done) | (simp; omega)))) | (with_reducible refine Bel.alloc ?_ _))); done)))
        clear hK
        intro hr
        (first | have hD := own_bel2 (n := q) hr (by omega) zD | have hD := own_bel (n := q) hr (by omega) zD)
        replace hx := hx.trans hr
        clear hr
        try simp only [Act.put, List.setIfInBounds_toArray, List.set_cons_zero, List.set_cons_succ]
        first
          | (refine wpT_takeN hx (by simp) (v := ?_) (List.getElem?_toArray.trans (by rfl)) (by rfl) (fun _ hc => ?_) ?_
             rotate_left
             focus (go_simp; (try go_ints); exact rfl)
             simp only [Act.put, List.setIfInBounds_toArray, List.set_cons_zero, List.set_cons_succ])
          | (refine wpT_skip (List.getElem?_toArray.trans (by rfl)) (by rfl) ?_; simp only [Act.put, List.setIfInBounds_toArray, List.set_cons_zero, List.set_cons_succ])
        refine wpT_call (List.getElem?_toArray.trans (by rfl)) (by rfl) (fun K hK => ?_) ?_
        · skip
          go_simp
          first | (refine hK _ _ ?_ ?_; (focus ((repeat (first | (with_reducible exact Bel.refl _ _ _) | assumption | (with_reducible exact Bel.alloc1 (by first | assumption | omega | (simp; omega))) | (with_reducible refine Bel.drew ?_) | (with_reducible refine Bel.drewL ?_) | (with_reducible refine Bel.setCell ?_ ?_ _; rotate_left; (focus (first | omega | (simp; done) | (simp; omega)))) | (with_reducible refine Bel.alloc ?_ _))); done))) | (refine hK undef _ ?_ ?_; (focus ((repeat (first | (with_reducible exact Bel.refl _ _ _) | assumption | (with_reducible exact Bel.alloc1 (by first | assumption | omega | (simp; omega))) | (with_reducible refine Bel.drew ?_) | (with_reducible refine Bel.drewL ?_) | (with_reducible refine Bel.setCell ?_ ?_ _; rotate_left; (focus (first | omega | (simp; done) | (simp; omega)))) | (with_reducible refine Bel.alloc ?_ _))); done)))
          clear hK
          intro hr
          replace hx := hx.trans hr
          clear hr
          try simp only [Act.put, List.setIfInBounds_toArray, List.set_cons_zero, List.set_cons_succ]
          refine wpT_store (List.getElem?_toArray.trans (by rfl)) rfl (by rfl) (fun K hK => ?_) ?_
          · skip
            
            go_simp
            refine hK _ ?_ ?_
            focus (exact (by repeat (first | exact Bel.refl _ _ _ | exact Bel.alloc1 (by first | assumption | omega | (simp; done) | (simp; omega)) | refine Bel.drew ?_ | refine Bel.drewL ?_ | refine Bel.both ?_ (by first | omega | (simp; done) | (simp; omega)) | (refine Bel.setCell ?_ ?_ _; rotate_left; (focus (first | omega | (simp; done) | (simp; omega)))))); done)
            clear hK
            intro hr
            replace hx := hx.trans hr
            clear hr
            try simp only [Act.put, List.setIfInBounds_toArray, List.set_cons_zero, List.set_cons_succ]
            refine wpT_done ?_
            go_wp2
            go_meet
            refine ⟨_, _, _, _, _, rfl, mks_fin ?_ hR HR.out hD HD.out (by (repeat (first | (with_reducible exact But.refl _ _) | assumption | (with_reducible refine But.drew ?_) | (with_reducible refine But.drewL ?_) | (with_reducible refine But.setCell ?_ ?_ _; rotate_left; (focus (simp; done))) | (with_reducible refine But.setCellL ?_ ?_; rotate_left; (focus (simp; done))) | (with_reducible refine But.alloc2 ?_ ?_; rotate_left; (focus (simp [World.setCell]; done))) | (with_reducible refine But.allocL ?_ ?_ ?_; rotate_left; (focus (simp; done)); (focus (simp; done))) | (with_reducible refine But.alloc ?_ _)))) (by (repeat (first | (with_reducible exact But.refl _ _) | assumption | (with_reducible refine But.drew ?_) | (with_reducible refine But.drewL ?_) | (with_reducible refine But.setCell ?_ ?_ _; rotate_left; (focus (simp; done))) | (with_reducible refine But.setCellL ?_ ?_; rotate_left; (focus (simp; done))) | (with_reducible refine But.alloc2 ?_ ?_; rotate_left; (focus (simp [World.setCell]; done))) | (with_reducible refine But.allocL ?_ ?_ ?_; rotate_left; (focus (simp; done)); (focus (simp; done))) | (with_reducible refine But.alloc ?_ _)))) (by (first | omega | (simp; done) | (simp; omega))) (by (first | omega | (simp; done) | (simp; omega))) (by (first | omega | (simp; done) | (simp; omega))) (by (first | omega | (simp; done) | (simp; omega))) (by (first | omega | (simp; done) | (simp; omega))), ext_bel hx⟩
            first
              | ((repeat (first | assumption | (with_reducible refine Blk.new ?_; (focus (simp; done))) | (with_reducible exact Blk.new rfl) | (with_reducible refine Blk.drew ?_) | (with_reducible refine Blk.alloc ?_ _) | refine Blk.ext ?_ (by assumption))); done)
              | (simp only [alloc_sz]; (repeat (first | assumption | (with_reducible refine Blk.new ?_; (focus (simp; done))) | (with_reducible exact Blk.new rfl) | (with_reducible refine Blk.drew ?_) | (with_reducible refine Blk.alloc ?_ _) | refine Blk.ext ?_ (by assumption))); done)
          exact wpT_none
        exact wpT_none
      refine wpT_call (List.getElem?_toArray.trans (by rfl)) (by rfl) (fun K hK => ?_) ?_
      · skip
        go_simp
        first | (refine hK _ _ ?_ ?_; (focus ((repeat (first | (with_reducible exact Bel.refl _ _ _) | assumption | (with_reducible exact Bel.alloc1 (by first | assumption | omega | (simp; omega))) | (with_reducible refine Bel.drew ?_) | (with_reducible refine Bel.drewL ?_) | (with_reducible refine Bel.setCell ?_ ?_ _; rotate_left; (focus (first | omega | (simp; done) | (simp; omega)))) | (with_reducible refine Bel.alloc ?_ _))); done))) | (refine hK undef _ ?_ ?_; (focus ((repeat (first | (with_reducible exact Bel.refl _ _ _) | assumption | (with_reducible exact Bel.alloc1 (by first | assumption | omega | (simp; omega))) | (with_reducible refine Bel.drew ?_) | (with_reducible refine Bel.drewL ?_) | (with_reducible refine Bel.setCell ?_ ?_ _; rotate_left; (focus (first | omega | (simp; done) | (simp; omega)))) | (with_reducible refine Bel.alloc ?_ _))); done)))
        clear hK
        intro hr
        replace hx := hx.trans hr
        clear hr
        try simp only [Act.put, List.setIfInBounds_toArray, List.set_cons_zero, List.set_cons_succ]
        refine wpT_call (List.getElem?_toArray.trans (by rfl)) (by rfl) (fun K hK => ?_) ?_
        · skip
          
          go_simp
          first | (refine hK _ _ ?_ ?_; (focus ((repeat (first | (with_reducible exact Bel.refl _ _ _) | assumption | (with_reducible exact Bel.alloc1 (by first | assumption | omega | (simp; omega))) | (with_reducible refine Bel.drew ?_) | (with_reducible refine Bel.drewL ?_) | (with_reducible refine Bel.setCell ?_ ?_ _; rotate_left; (focus (first | omega | (simp; done) | (simp; omega)))) | (with_reducible refine Bel.alloc ?_ _))); done))) | (refine hK undef _ ?_ ?_; (focus ((repeat (first | (with_reducible exact Bel.refl _ _ _) | assumption | (with_reducible exact Bel.alloc1 (by first | assumption | omega | (simp; omega))) | (with_reducible refine Bel.drew ?_) | (with_reducible refine Bel.drewL ?_) | (with_reducible refine Bel.setCell ?_ ?_ _; rotate_left; (focus (first | omega | (simp; done) | (simp; omega)))) | (with_reducible refine Bel.alloc ?_ _))); done)))
          clear hK
          intro hr
          (first | have hD := own_bel2 (n := q) hr (by omega) zD | have hD := own_bel (n := q) hr (by omega) zD)
          replace hx := hx.trans hr
          clear hr
          try simp only [Act.put, List.setIfInBounds_toArray, List.set_cons_zero, List.set_cons_succ]
          first
            | (refine wpT_takeN hx (by simp) (v := ?_) (List.getElem?_toArray.trans (by rfl)) (by rfl) (fun _ hc => ?_) ?_
               rotate_left
               focus (go_simp; (try go_ints); exact rfl)
               simp only [Act.put, List.setIfInBounds_toArray, List.set_cons_zero, List.set_cons_succ])
            | (refine wpT_skip (List.getElem?_toArray.trans (by rfl)) (by rfl) ?_; simp only [Act.put, List.setIfInBounds_toArray, List.set_cons_zero, List.set_cons_succ])
          refine wpT_store (List.getElem?_toArray.trans (by rfl)) rfl (by rfl) (fun K hK => ?_) ?_
          · skip
            
            go_simp
            refine hK _ ?_ ?_
            focus (exact (by repeat (first | exact Bel.refl _ _ _ | exact Bel.alloc1 (by first | assumption | omega | (simp; done) | (simp; omega)) | refine Bel.drew ?_ | refine Bel.drewL ?_ | refine Bel.both ?_ (by first | omega | (simp; done) | (simp; omega)) | (refine Bel.setCell ?_ ?_ _; rotate_left; (focus (first | omega | (simp; done) | (simp; omega)))))); done)
            clear hK
            intro hr
            replace hx := hx.trans hr
            clear hr
            try simp only [Act.put, List.setIfInBounds_toArray, List.set_cons_zero, List.set_cons_succ]
            refine wpT_done ?_
            go_wp2
            go_meet
            refine ⟨_, _, _, _, _, rfl, mks_fin ?_ hR HR.out hD HD.out (by (repeat (first | (with_reducible exact But.refl _ _) | assumption | (with_reducible refine But.drew ?_) | (with_reducible refine But.drewL ?_) | (with_reducible refine But.setCell ?_ ?_ _; rotate_left; (focus (simp; done))) | (with_reducible refine But.setCellL ?_ ?_; rotate_left; (focus (simp; done))) | (with_reducible refine But.alloc2 ?_ ?_; rotate_left; (focus (simp [World.setCell]; done))) | (with_reducible refine But.allocL ?_ ?_ ?_; rotate_left; (focus (simp; done)); (focus (simp; done))) | (with_reducible refine But.alloc ?_ _)))) (by (repeat (first | (with_reducible exact But.refl _ _) | assumption | (with_reducible refine But.drew ?_) | (with_reducible refine But.drewL ?_) | (with_reducible refine But.setCell ?_ ?_ _; rotate_left; (focus (simp; done))) | (with_reducible refine But.setCellL ?_ ?_; rotate_left; (focus (simp; done))) | (with_reducible refine But.alloc2 ?_ ?_; rotate_left; (focus (simp [World.setCell]; done))) | (with_reducible refine But.allocL ?_ ?_ ?_; rotate_left; (focus (simp; done)); (focus (simp; done))) | (with_reducible refine But.alloc ?_ _)))) (by (first | omega | (simp; done) | (simp; omega))) (by (first | omega | (simp; done) | (simp; omega))) (by (first | omega | (simp; done) | (simp; omega))) (by (first | omega | (simp; done) | (simp; omega))) (by (first | omega | (simp; done) | (simp; omega))), ext_bel hx⟩
            first
              | ((repeat (first | assumption | (with_reducible refine Blk.new ?_; (focus (simp; done))) | (with_reducible exact Blk.new rfl) | (with_reducible refine Blk.drew ?_) | (with_reducible refine Blk.alloc ?_ _) | refine Blk.ext ?_ (by assumption))); done)
              | (simp only [alloc_sz]; (repeat (first | assumption | (with_reducible refine Blk.new ?_; (focus (simp; done))) | (with_reducible exact Blk.new rfl) | (with_reducible refine Blk.drew ?_) | (with_reducible refine Blk.alloc ?_ _) | refine Blk.ext ?_ (by assumption))); done)
          exact wpT_none
        exact wpT_none
      exact wpT_none
    refine wpT_call (List.getElem?_toArray.trans (by rfl)) (by rfl) (fun K hK => ?_) ?_
    · skip
      
      go_simp
      first | (refine hK _ _ ?_ ?_; (focus ((repeat (first | (with_reducible exact Bel.refl _ _ _) | assumption | (with_reducible exact Bel.alloc1 (by first | assumption | omega | (simp; omega))) | (with_reducible refine Bel.drew ?_) | (with_reducible refine Bel.drewL ?_) | (with_reducible refine Bel.setCell ?_ ?_ _; rotate_left; (focus (first | omega | (simp; done) | (simp; omega)))) | (with_reducible refine Bel.alloc ?_ _))); done))) | (refine hK undef _ ?_ ?_; (focus ((repeat (first | (with_reducible exact Bel.refl _ _ _) | assumption | (with_reducible exact Bel.alloc1 (by first | assumption | omega | (simp; omega))) | (with_reducible refine Bel.drew ?_) | (with_reducible refine Bel.drewL ?_) | (with_reducible refine Bel.setCell ?_ ?_ _; rotate_left; (focus (first | omega | (simp; done) | (simp; omega)))) | (with_reducible refine Bel.alloc ?_ _))); done)))
      clear hK
      intro hr
      (first | have hD := own_bel2 (n := q) hr (by omega) zD | have hD := own_bel (n := q) hr (by omega) zD)
      replace hx := hx.trans hr
      clear hr
      try simp only [Act.put, List.setIfInBounds_toArray, List.set_cons_zero, List.set_cons_succ]
      refine wpT_call (List.getElem?_toArray.trans (by rfl)) (by rfl) (fun K hK => ?_) ?_
      · skip
        
        go_simp
        first | (refine hK _ _ ?_ ?_; (focus ((repeat (first | (with_reducible exact Bel.refl _ _ _) | assumption | (with_reducible exact Bel.alloc1 (by first | assumption | omega | (simp; omega))) | (with_reducible refine Bel.drew ?_) | (with_reducible refine Bel.drewL ?_) | (with_reducible refine Bel.setCell ?_ ?_ _; rotate_left; (focus (first | omega | (simp; done) | (simp; omega)))) | (with_reducible refine Bel.alloc ?_ _))); done))) | (refine hK undef _ ?_ ?_; (focus ((repeat (first | (with_reducible exact Bel.refl _ _ _) | assumption | (with_reducible exact Bel.alloc1 (by first | assumption | omega | (simp; omega))) | (with_reducible refine Bel.drew ?_) | (with_reducible refine Bel.drewL ?_) | (with_reducible refine Bel.setCell ?_ ?_ _; rotate_left; (focus (first | omega | (simp; done) | (simp; omega)))) | (with_reducible refine Bel.alloc ?_ _))); done)))
        clear hK
        intro hr
        (first | have hR := own_bel2 (n := p) hr (by omega) zR | have hR := own_bel (n := p) hr (by omega) zR)
        replace hx := hx.trans hr
        clear hr
        try simp only [Act.put, List.setIfInBounds_toArray, List.set_cons_zero, List.set_cons_succ]
        first
          | (refine wpT_takeN hx (by simp) (v := ?_) (List.getElem?_toArray.trans (by rfl)) (by rfl) (fun _ hc => ?_) ?_
             rotate_left
             focus (go_simp; (try go_ints); exact rfl)
             simp only [Act.put, List.setIfInBounds_toArray, List.set_cons_zero, List.set_cons_succ])
          | (refine wpT_skip (List.getElem?_toArray.trans (by rfl)) (by rfl) ?_; simp only [Act.put, List.setIfInBounds_toArray, List.set_cons_zero, List.set_cons_succ])
        refine wpT_call (List.getElem?_toArray.trans (by rfl)) (by rfl) (fun K hK => ?_) ?_
        · skip
          go_simp
          first | (refine hK _ _ ?_ ?_; (focus ((repeat (first | (with_reducible exact Bel.refl _ _ _) | assumption | (with_reducible exact Bel.alloc1 (by first | assumption | omega | (simp; omega))) | (with_reducible refine Bel.drew ?_) | (with_reducible refine Bel.drewL ?_) | (with_reducible refine Bel.setCell ?_ ?_ _; rotate_left; (focus (first | omega | (simp; done) | (simp; omega)))) | (with_reducible refine Bel.alloc ?_ _))); done))) | (refine hK undef _ ?_ ?_; (focus ((repeat (first | (with_reducible exact Bel.refl _ _ _) | assumption | (with_reducible exact Bel.alloc1 (by first | assumption | omega | (simp; omega))) | (with_reducible refine Bel.drew ?_) | (with_reducible refine Bel.drewL ?_) | (with_reducible refine Bel.setCell ?_ ?_ _; rotate_left; (focus (first | omega | (simp; done) | (simp; omega)))) | (with_reducible refine Bel.alloc ?_ _))); done)))
          clear hK
          intro hr
          replace hx := hx.trans hr
          clear hr
          try simp only [Act.put, List.setIfInBounds_toArray, List.set_cons_zero, List.set_cons_succ]
          refine wpT_store (List.getElem?_toArray.trans (by rfl)) rfl (by rfl) (fun K hK => ?_) ?_
          · skip
            
            go_simp
            refine hK _ ?_ ?_
            focus (exact (by repeat (first | exact Bel.refl _ _ _ | exact Bel.alloc1 (by first | assumption | omega | (simp; done) | (simp; omega)) | refine Bel.drew ?_ | refine Bel.drewL ?_ | refine Bel.both ?_ (by first | omega | (simp; done) | (simp; omega)) | (refine Bel.setCell ?_ ?_ _; rotate_left; (focus (first | omega | (simp; done) | (simp; omega)))))); done)
            clear hK
            intro hr
            replace hx := hx.trans hr
            clear hr
            try simp only [Act.put, List.setIfInBounds_toArray, List.set_cons_zero, List.set_cons_succ]
            refine wpT_done ?_
            go_wp2
            go_meet
            refine ⟨_, _, _, _, _, rfl, mks_fin ?_ hR HR.out hD HD.out (by (repeat (first | (with_reducible exact But.refl _ _) | assumption | (with_reducible refine But.drew ?_) | (with_reducible refine But.drewL ?_) | (with_reducible refine But.setCell ?_ ?_ _; rotate_left; (focus (simp; done))) | (with_reducible refine But.setCellL ?_ ?_; rotate_left; (focus (simp; done))) | (with_reducible refine But.alloc2 ?_ ?_; rotate_left; (focus (simp [World.setCell]; done))) | (with_reducible refine But.allocL ?_ ?_ ?_; rotate_left; (focus (simp; done)); (focus (simp; done))) | (with_reducible refine But.alloc ?_ _)))) (by (repeat (first | (with_reducible exact But.refl _ _) | assumption | (with_reducible refine But.drew ?_) | (with_reducible refine But.drewL ?_) | (with_reducible refine But.setCell ?_ ?_ _; rotate_left; (focus (simp; done))) | (with_reducible refine But.setCellL ?_ ?_; rotate_left; (focus (simp; done))) | (with_reducible refine But.alloc2 ?_ ?_; rotate_left; (focus (simp [World.setCell]; done))) | (with_reducible refine But.allocL ?_ ?_ ?_; rotate_left; (focus (simp; done)); (focus (simp; done))) | (with_reducible refine But.alloc ?_ _)))) (by (first | omega | (simp; done) | (simp; omega))) (by (first | omega | (simp; done) | (simp; omega))) (by (first | omega | (simp; done) | (simp; omega))) (by (first | omega | (simp; done) | (simp; omega))) (by (first | omega | (simp; done) | (simp; omega))), ext_bel hx⟩
            first
              | ((repeat (first | assumption | (with_reducible refine Blk.new ?_; (focus (simp; done))) | (with_reducible exact Blk.new rfl) | (with_reducible refine Blk.drew ?_) | (with_reducible refine Blk.alloc ?_ _) | refine Blk.ext ?_ (by assumption))); done)
              | (simp only [alloc_sz]; (repeat (first | assumption | (with_reducible refine Blk.new ?_; (focus (simp; done))) | (with_reducible exact Blk.new rfl) | (with_reducible refine Blk.drew ?_) | (with_reducible refine Blk.alloc ?_ _) | refine Blk.ext ?_ (by assumption))); done)
          exact wpT_none
        exact wpT_none
      refine wpT_call (List.getElem?_toArray.trans (by rfl)) (by rfl) (fun K hK => ?_) ?_
      · skip
        go_simp
        first | (refine hK _ _ ?_ ?_; (focus ((repeat (first | (with_reducible exact Bel.refl _ _ _) | assumption | (with_reducible exact Bel.alloc1 (by first | assumption | omega | (simp; omega))) | (with_reducible refine Bel.drew ?_) | (with_reducible refine Bel.drewL ?_) | (with_reducible refine Bel.setCell ?_ ?_ _; rotate_left; (focus (first | omega | (simp; done) | (simp; omega)))) | (with_reducible refine Bel.alloc ?_ _))); done))) | (refine hK undef _ ?_ ?_; (focus ((repeat (first | (with_reducible exact Bel.refl _ _ _) | assumption | (with_reducible exact Bel.alloc1 (by first | assumption | omega | (simp; omega))) | (with_reducible refine Bel.drew ?_) | (with_reducible refine Bel.drewL ?_) | (with_reducible refine Bel.setCell ?_ ?_ _; rotate_left; (focus (first | omega | (simp; done) | (simp; omega)))) | (with_reducible refine Bel.alloc ?_ _))); done)))
        clear hK
        intro hr
        replace hx := hx.trans hr
        clear hr
        try simp only [Act.put, List.setIfInBounds_toArray, List.set_cons_zero, List.set_cons_succ]
        refine wpT_call (List.getElem?_toArray.trans (by rfl)) (by rfl) (fun K hK => ?_) ?_
        · skip
          
          go_simp
          first | (refine hK _ _ ?_ ?_; (focus ((repeat (first | (with_reducible exact Bel.refl _ _ _) | assumption | (with_reducible exact Bel.alloc1 (by first | assumption | omega | (simp; omega))) | (with_reducible refine Bel.drew ?_) | (with_reducible refine Bel.drewL ?_) | (with_reducible refine Bel.setCell ?_ ?_ _; rotate_left; (focus (first | omega | (simp; done) | (simp; omega)))) | (with_reducible refine Bel.alloc ?_ _))); done))) | (refine hK undef _ ?_ ?_; (focus ((repeat (first | (with_reducible exact Bel.refl _ _ _) | assumption | (with_reducible exact Bel.alloc1 (by first | assumption | omega | (simp; omega))) | (with_reducible refine Bel.drew ?_) | (with_reducible refine Bel.drewL ?_) | (with_reducible refine Bel.setCell ?_ ?_ _; rotate_left; (focus (first | omega | (simp; done) | (simp; omega)))) | (with_reducible refine Bel.alloc ?_ _))); done)))
          clear hK
          intro hr
          (first | have hR := own_bel2 (n := p) hr (by omega) zR | have hR := own_bel (n := p) hr (by omega) zR)
          replace hx := hx.trans hr
          clear hr
          try simp only [Act.put, List.setIfInBounds_toArray, List.set_cons_zero, List.set_cons_succ]
          first
            | (refine wpT_takeN hx (by simp) (v := ?_) (List.getElem?_toArray.trans (by rfl)) (by rfl) (fun _ hc => ?_) ?_
               rotate_left
               focus (go_simp; (try go_ints); exact rfl)
               simp only [Act.put, List.setIfInBounds_toArray, List.set_cons_zero, List.set_cons_succ])
            | (refine wpT_skip (List.getElem?_toArray.trans (by rfl)) (by rfl) ?_; simp only [Act.put, List.setIfInBounds_toArray, List.set_cons_zero, List.set_cons_succ])
          refine wpT_store (List.getElem?_toArray.trans (by rfl)) rfl (by rfl) (fun K hK => ?_) ?_
          · skip
            
            go_simp
            refine hK _ ?_ ?_
            focus (exact (by repeat (first | exact Bel.refl _ _ _ | exact Bel.alloc1 (by first | assumption | omega | (simp; done) | (simp; omega)) | refine Bel.drew ?_ | refine Bel.drewL ?_ | refine Bel.both ?_ (by first | omega | (simp; done) | (simp; omega)) | (refine Bel.setCell ?_ ?_ _; rotate_left; (focus (first | omega | (simp; done) | (simp; omega)))))); done)
            clear hK
            intro hr
            replace hx := hx.trans hr
            clear hr
            try simp only [Act.put, List.setIfInBounds_toArray, List.set_cons_zero, List.set_cons_succ]
            refine wpT_done ?_
            go_wp2
            go_meet
            refine ⟨_, _, _, _, _, rfl, mks_fin ?_ hR HR.out hD HD.out (by (repeat (first | (with_reducible exact But.refl _ _) | assumption | (with_reducible refine But.drew ?_) | (with_reducible refine But.drewL ?_) | (with_reducible refine But.setCell ?_ ?_ _; rotate_left; (focus (simp; done))) | (with_reducible refine But.setCellL ?_ ?_; rotate_left; (focus (simp; done))) | (with_reducible refine But.alloc2 ?_ ?_; rotate_left; (focus (simp [World.setCell]; done))) | (with_reducible refine But.allocL ?_ ?_ ?_; rotate_left; (focus (simp; done)); (focus (simp; done))) | (with_reducible refine But.alloc ?_ _)))) (by (repeat (first | (with_reducible exact But.refl _ _) | assumption | (with_reducible refine But.drew ?_) | (with_reducible refine But.drewL ?_) | (with_reducible refine But.setCell ?_ ?_ _; rotate_left; (focus (simp; done))) | (with_reducible refine But.setCellL ?_ ?_; rotate_left; (focus (simp; done))) | (with_reducible refine But.alloc2 ?_ ?_; rotate_left; (focus (simp [World.setCell]; done))) | (with_reducible refine But.allocL ?_ ?_ ?_; rotate_left; (focus (simp; done)); (focus (simp; done))) | (with_reducible refine But.alloc ?_ _)))) (by (first | omega | (simp; done) | (simp; omega))) (by (first | omega | (simp; done) | (simp; omega))) (by (first | omega | (simp; done) | (simp; omega))) (by (first | omega | (simp; done) | (simp; omega))) (by (first | omega | (simp; done) | (simp; omega))), ext_bel hx⟩
            first
              | ((repeat (first | assumption | (with_reducible refine Blk.new ?_; (focus (simp; done))) | (with_reducible exact Blk.new rfl) | (with_reducible refine Blk.drew ?_) | (with_reducible refine Blk.alloc ?_ _) | refine Blk.ext ?_ (by assumption))); done)
              | (simp only [alloc_sz]; (repeat (first | assumption | (with_reducible refine Blk.new ?_; (focus (simp; done))) | (with_reducible exact Blk.new rfl) | (with_reducible refine Blk.drew ?_) | (with_reducible refine Blk.alloc ?_ _) | refine Blk.ext ?_ (by assumption))); done)
          exact wpT_none
        exact wpT_none
      exact wpT_none
    refine wpT_call (List.getElem?_toArray.trans (by rfl)) (by rfl) (fun K hK => ?_) ?_
    · skip
      go_simp
      first | (refine hK _ _ ?_ ?_; (focus ((repeat (first | (with_reducible exact Bel.refl _ _ _) | assumption | (with_reducible exact Bel.alloc1 (by first | assumption | omega | (simp; omega))) | (with_reducible refine Bel.drew ?_) | (with_reducible refine Bel.drewL ?_) | (with_reducible refine Bel.setCell ?_ ?_ _; rotate_left; (focus (first | omega | (simp; done) | (simp; omega)))) | (with_reducible refine Bel.alloc ?_ _))); done))) | (refine hK undef _ ?_ ?_; (focus ((repeat (first | (with_reducible exact Bel.refl _ _ _) | assumption | (with_reducible exact Bel.alloc1 (by first | assumption | omega | (simp; omega))) | (with_reducible refine Bel.drew ?_) | (with_reducible refine Bel.drewL ?_) | (with_reducible refine Bel.setCell ?_ ?_ _; rotate_left; (focus (first | omega | (simp; done) | (simp; omega)))) | (with_reducible refine Bel.alloc ?_ _))); done)))
      clear hK
      intro hr
      replace hx := hx.trans hr
      clear hr
      try simp only [Act.put, List.setIfInBounds_toArray, List.set_cons_zero, List.set_cons_succ]
      refine wpT_call (List.getElem?_toArray.trans (by rfl)) (by rfl) (fun K hK => ?_) ?_
      · skip
        
        go_simp
        first | (refine hK _ _ ?_ ?_; (focus ((repeat (first | (with_reducible exact Bel.refl _ _ _) | assumption | (with_reducible exact Bel.alloc1 (by first | assumption | omega | (simp; omega))) | (with_reducible refine Bel.drew ?_) | (with_reducible refine Bel.drewL ?_) | (with_reducible refine Bel.setCell ?_ ?_ _; rotate_left; (focus (first | omega | (simp; done) | (simp; omega)))) | (with_reducible refine Bel.alloc ?_ _))); done))) | (refine hK undef _ ?_ ?_; (focus ((repeat (first | (with_reducible exact Bel.refl _ _ _) | assumption | (with_reducible exact Bel.alloc1 (by first | assumption | omega | (simp; omega))) | (with_reducible refine Bel.drew ?_) | (with_reducible refine Bel.drewL ?_) | (with_reducible refine Bel.setCell ?_ ?_ _; rotate_left; (focus (first | omega | (simp; done) | (simp; omega)))) | (with_reducible refine Bel.alloc ?_ _))); done)))
        clear hK
        intro hr
        (first | have hR := own_bel2 (n := p) hr (by omega) zR | have hR := own_bel (n := p) hr (by omega) zR)
        replace hx := hx.trans hr
        clear hr
        try simp only [Act.put, List.setIfInBounds_toArray, List.set_cons_zero, List.set_cons_succ]
        refine wpT_call (List.getElem?_toArray.trans (by rfl)) (by rfl) (fun K hK => ?_) ?_
        · skip
          
          go_simp
          first | (refine hK _ _ ?_ ?_; (focus ((repeat (first | (with_reducible exact Bel.refl _ _ _) | assumption | (with_reducible exact Bel.alloc1 (by first | assumption | omega | (simp; omega))) | (with_reducible refine Bel.drew ?_) | (with_reducible refine Bel.drewL ?_) | (with_reducible refine Bel.setCell ?_ ?_ _; rotate_left; (focus (first | omega | (simp; done) | (simp; omega)))) | (with_reducible refine Bel.alloc ?_ _))); done))) | (refine hK undef _ ?_ ?_; (focus ((repeat (first | (with_reducible exact Bel.refl _ _ _) | assumption | (with_reducible exact Bel.alloc1 (by first | assumption | omega | (simp; omega))) | (with_reducible refine Bel.drew ?_) | (with_reducible refine Bel.drewL ?_) | (with_reducible refine Bel.setCell ?_ ?_ _; rotate_left; (focus (first | omega | (simp; done) | (simp; omega)))) | (with_reducible refine Bel.alloc ?_ _))); done)))
          clear hK
          intro hr
          (first | have hD := own_bel2 (n := q) hr (by omega) zD | have hD := own_bel (n := q) hr (by omega) zD)
          replace hx := hx.trans hr
          clear hr
          try simp only [Act.put, List.setIfInBounds_toArray, List.set_cons_zero, List.set_cons_succ]
          first
            | (refine wpT_takeN hx (by simp) (v := ?_) (List.getElem?_toArray.trans (by rfl)) (by rfl) (fun _ hc => ?_) ?_
               rotate_left
               focus (go_simp; (try go_ints); exact rfl)
               simp only [Act.put, List.setIfInBounds_toArray, List.set_cons_zero, List.set_cons_succ])
            | (refine wpT_skip (List.getElem?_toArray.trans (by rfl)) (by rfl) ?_; simp only [Act.put, List.setIfInBounds_toArray, List.set_cons_zero, List.set_cons_succ])
          refine wpT_store (List.getElem?_toArray.trans (by rfl)) rfl (by rfl) (fun K hK => ?_) ?_
          · skip
            
            go_simp
            refine hK _ ?_ ?_
            focus (exact (by repeat (first | exact Bel.refl _ _ _ | exact Bel.alloc1 (by first | assumption | omega | (simp; done) | (simp; omega)) | refine Bel.drew ?_ | refine Bel.drewL ?_ | refine Bel.both ?_ (by first | omega | (simp; done) | (simp; omega)) | (refine Bel.setCell ?_ ?_ _; rotate_left; (focus (first | omega | (simp; done) | (simp; omega)))))); done)
            clear hK
            intro hr
            replace hx := hx.trans hr
            clear hr
            try simp only [Act.put, List.setIfInBounds_toArray, List.set_cons_zero, List.set_cons_succ]
            refine wpT_done ?_
            go_wp2
            go_meet
            refine ⟨_, _, _, _, _, rfl, mks_fin ?_ hR HR.out hD HD.out (by (repeat (first | (with_reducible exact But.refl _ _) | assumption | (with_reducible refine But.drew ?_) | (with_reducible refine But.drewL ?_) | (with_reducible refine But.setCell ?_ ?_ _; rotate_left; (focus (simp; done))) | (with_reducible refine But.setCellL ?_ ?_; rotate_left; (focus (simp; done))) | (with_reducible refine But.alloc2 ?_ ?_; rotate_left; (focus (simp [World.setCell]; done))) | (with_reducible refine But.allocL ?_ ?_ ?_; rotate_left; (focus (simp; done)); (focus (simp; done))) | (with_reducible refine But.alloc ?_ _)))) (by (repeat (first | (with_reducible exact But.refl _ _) | assumption | (with_reducible refine But.drew ?_) | (with_reducible refine But.drewL ?_) | (with_reducible refine But.setCell ?_ ?_ _; rotate_left; (focus (simp; done))) | (with_reducible refine But.setCellL ?_ ?_; rotate_left; (focus (simp; done))) | (with_reducible refine But.alloc2 ?_ ?_; rotate_left; (focus (simp [World.setCell]; done))) | (with_reducible refine But.allocL ?_ ?_ ?_; rotate_left; (focus (simp; done)); (focus (simp; done))) | (with_reducible refine But.alloc ?_ _)))) (by (first | omega | (simp; done) | (simp; omega))) (by (first | omega | (simp; done) | (simp; omega))) (by (first | omega | (simp; done) | (simp; omega))) (by (first | omega | (simp; done) | (simp; omega))) (by (first | omega | (simp; done) | (simp; omega))), ext_bel hx⟩
            first
              | ((repeat (first | assumption | (with_reducible refine Blk.new ?_; (focus (simp; done))) | (with_reducible exact Blk.new rfl) | (with_reducible refine Blk.drew ?_) | (with_reducible refine Blk.alloc ?_ _) | refine Blk.ext ?_ (by assumption))); done)
              | (simp only [alloc_sz]; (repeat (first | assumption | (with_reducible refine Blk.new ?_; (focus (simp; done))) | (with_reducible exact Blk.new rfl) | (with_reducible refine Blk.drew ?_) | (with_reducible refine Blk.alloc ?_ _) | refine Blk.ext ?_ (by assumption))); done)
          exact wpT_none
        exact wpT_none
      refine wpT_call (List.getElem?_toArray.trans (by rfl)) (by rfl) (fun K hK => ?_) ?_
      · skip
        
        go_simp
        first | (refine hK _ _ ?_ ?_; (focus ((repeat (first | (with_reducible exact Bel.refl _ _ _) | assumption | (with_reducible exact Bel.alloc1 (by first | assumption | omega | (simp; omega))) | (with_reducible refine Bel.drew ?_) | (with_reducible refine Bel.drewL ?_) | (with_reducible refine Bel.setCell ?_ ?_ _; rotate_left; (focus (first | omega | (simp; done) | (simp; omega)))) | (with_reducible refine Bel.alloc ?_ _))); done))) | (refine hK undef _ ?_ ?_; (focus ((repeat (first | (with_reducible exact Bel.refl _ _ _) | assumption | (with_reducible exact Bel.alloc1 (by first | assumption | omega | (simp; omega))) | (with_reducible refine Bel.drew ?_) | (with_reducible refine Bel.drewL ?_) | (with_reducible refine Bel.setCell ?_ ?_ _; rotate_left; (focus (first | omega | (simp; done) | (simp; omega)))) | (with_reducible refine Bel.alloc ?_ _))); done)))
        clear hK
        intro hr
        (first | have hD := own_bel2 (n := q) hr (by omega) zD | have hD := own_bel (n := q) hr (by omega) zD)
        replace hx := hx.trans hr
        clear hr
        try simp only [Act.put, List.setIfInBounds_toArray, List.set_cons_zero, List.set_cons_succ]
        refine wpT_call (List.getElem?_toArray.trans (by rfl)) (by rfl) (fun K hK => ?_) ?_
        · skip
          
          go_simp
          first | (refine hK _ _ ?_ ?_; (focus ((repeat (first | (with_reducible exact Bel.refl _ _ _) | assumption | (with_reducible exact Bel.alloc1 (by first | assumption | omega | (simp; omega))) | (with_reducible refine Bel.drew ?_) | (with_reducible refine Bel.drewL ?_) | (with_reducible refine Bel.setCell ?_ ?_ _; rotate_left; (focus (first | omega | (simp; done) | (simp; omega)))) | (with_reducible refine Bel.alloc ?_ _))); done))) | (refine hK undef _ ?_ ?_; (focus ((repeat (first | (with_reducible exact Bel.refl _ _ _) | assumption | (with_reducible exact Bel.alloc1 (by first | assumption | omega | (simp; omega))) | (with_reducible refine Bel.drew ?_) | (with_reducible refine Bel.drewL ?_) | (with_reducible refine Bel.setCell ?_ ?_ _; rotate_left; (focus (first | omega | (simp; done) | (simp; omega)))) | (with_reducible refine Bel.alloc ?_ _))); done)))
          clear hK
          intro hr
          (first | have hR := own_bel2 (n := p) hr (by omega) zR | have hR := own_bel (n := p) hr (by omega) zR)
          replace hx := hx.trans hr
          clear hr
          try simp only [Act.put, List.setIfInBounds_toArray, List.set_cons_zero, List.set_cons_succ]
          first
            | (refine wpT_takeN hx (by simp) (v := ?_) (List.getElem?_toArray.trans (by rfl)) (by rfl) (fun _ hc => ?_) ?_
               rotate_left
               focus (go_simp; (try go_ints); exact rfl)
               simp only [Act.put, List.setIfInBounds_toArray, List.set_cons_zero, List.set_cons_succ])
            | (refine wpT_skip (List.getElem?_toArray.trans (by rfl)) (by rfl) ?_; simp only [Act.put, List.setIfInBounds_toArray, List.set_cons_zero, List.set_cons_succ])
          refine wpT_store (List.getElem?_toArray.trans (by rfl)) rfl (by rfl) (fun K hK => ?_) ?_
          · skip
            
            go_simp
            refine hK _ ?_ ?_
            focus (exact (by repeat (first | exact Bel.refl _ _ _ | exact Bel.alloc1 (by first | assumption | omega | (simp; done) | (simp; omega)) | refine Bel.drew ?_ | refine Bel.drewL ?_ | refine Bel.both ?_ (by first | omega | (simp; done) | (simp; omega)) | (refine Bel.setCell ?_ ?_ _; rotate_left; (focus (first | omega | (simp; done) | (simp; omega)))))); done)
            clear hK
            intro hr
            replace hx := hx.trans hr
            clear hr
            try simp only [Act.put, List.setIfInBounds_toArray, List.set_cons_zero, List.set_cons_succ]
            refine wpT_done ?_
            go_wp2
            go_meet
            refine ⟨_, _, _, _, _, rfl, mks_fin ?_ hR HR.out hD HD.out (by (repeat (first | (with_reducible exact But.refl _ _) | assumption | (with_reducible refine But.drew ?_) | (with_reducible refine But.drewL ?_) | (with_reducible refine But.setCell ?_ ?_ _; rotate_left; (focus (simp; done))) | (with_reducible refine But.setCellL ?_ ?_; rotate_left; (focus (simp; done))) | (with_reducible refine But.alloc2 ?_ ?_; rotate_left; (focus (simp [World.setCell]; done))) | (with_reducible refine But.allocL ?_ ?_ ?_; rotate_left; (focus (simp; done)); (focus (simp; done))) | (with_reducible refine But.alloc ?_ _)))) (by (repeat (first | (with_reducible exact But.refl _ _) | assumption | (with_reducible refine But.drew ?_) | (with_reducible refine But.drewL ?_) | (with_reducible refine But.setCell ?_ ?_ _; rotate_left; (focus (simp; done))) | (with_reducible refine But.setCellL ?_ ?_; rotate_left; (focus (simp; done))) | (with_reducible refine But.alloc2 ?_ ?_; rotate_left; (focus (simp [World.setCell]; done))) | (with_reducible refine But.allocL ?_ ?_ ?_; rotate_left; (focus (simp; done)); (focus (simp; done))) | (with_reducible refine But.alloc ?_ _)))) (by (first | omega | (simp; done) | (simp; omega))) (by (first | omega | (simp; done) | (simp; omega))) (by (first | omega | (simp; done) | (simp; omega))) (by (first | omega | (simp; done) | (simp; omega))) (by (first | omega | (simp; done) | (simp; omega))), ext_bel hx⟩
            first
              | ((repeat (first | assumption | (with_reducible refine Blk.new ?_; (focus (simp; done))) | (with_reducible exact Blk.new rfl) | (with_reducible refine Blk.drew ?_) | (with_reducible refine Blk.alloc ?_ _) | refine Blk.ext ?_ (by assumption))); done)
              | (simp only [alloc_sz]; (repeat (first | assumption | (with_reducible refine Blk.new ?_; (focus (simp; done))) | (with_reducible exact Blk.new rfl) | (with_reducible refine Blk.drew ?_) | (with_reducible refine Blk.alloc ?_ _) | refine Blk.ext ?_ (by assumption))); done)
          exact wpT_none
        exact wpT_none
      exact wpT_none
    exact wpT_none
  case rest =>
    obtain ⟨b, A, c', B, d', rfl, ⟨k8, hR, hD, hb8⟩, hE8⟩ := hcut
    have m8 := k8.cell
    obtain ⟨A1', a1', rfl⟩ := own_slice hG.nodes
    have hlo := kO.lt
    clear m3 k3 l3 cR cD mR mD zR zD HR HD s1 s2 s3 s4 s5 s6
    go_wp2_with fail
    go_loopw [51] (fun i wr => ∃ k : Nat, k ≤ p ∧ i = .int .i64 k ∧ Blk wr b 49 #[.slice A p c', .slice B q d'] ∧ wr.ownsRow w1.heap.size 3 1 (.slice A p c') p (ints (mdp p k)) ∧ wr.ownsRow w1.heap.size 31 1 (.slice B q d') q (words (List.replicate q 0)) ∧ Ext w1 wr) (fun i _ => p - (intOf i).toNat)
    case atStart => exact ⟨0, by omega, rfl, k8, by simpa [ints, mdp] using hR, hD, hE8⟩
    case round =>
      clear k8 hR hD hE8 m8
      obtain ⟨k, hk, rfl, k8, hR, hD, hE⟩ := hrel
      have m8 := k8.cell
      have l8 := k8.lt
      by_cases hlt : k < p
      · have hdec : decide ((k : Int) < p) = true := by simp; omega
        have hdec' : decide (k < p) = true := by simp; omega
        have hkb : (k : Int) < p := by omega
        obtain ⟨bR, cc, e⟩ := own_at hR (by omega)
        injection e with e1 e2 e3
        subst e1
        subst e3
        obtain ⟨cRc, fR⟩ := own_cells hR
        have hRi := cRc k (.int .i64 ((mdp p k).getD k 0)) (ints_at (by rw [List.getElem?_eq_getElem (by rw [mdp_len hk]; exact hlt), List.getD_eq_getElem?_getD, List.getElem?_eq_getElem (by rw [mdp_len hk]; exact hlt)]; rfl))
        have hRl := World.ownsRow.lt hR bR rfl
        have hbR : b ≠ bR := fun e => by
          subst e
          rcases hR.2 with ⟨h0, _⟩ | ⟨g', cap, cur, hv', _, hg', _⟩
          · cases h0
          · simp only [Value.slice.injEq, Option.some.injEq, Addr.mk.injEq, and_true, true_and] at hv'
            obtain ⟨rfl, _⟩ := hv'
            unfold Blk at k8
            rw [k8] at hg'
            injection hg' with hg'
            injection hg' with _ ht
            exact absurd ht (by decide)
        have hDR : ∀ g', (Value.slice B q d').ownBlock = some g' → g' ∉ [bR] := fun g' hg' hm => by
          have hm' := List.mem_singleton.1 hm
          subst hm'
          exact own_apart hR hD (Ext.refl _) (by decide) g' rfl hg'
        clear cRc
        go_wp2
        go_roundw
        case rel => exact ⟨k + 1, by omega, by go_num, k8.far hbR _, by rw [← mdp_set hlt, ints_set]; exact own_set hR k _, own_but hD (But.setCell (S := [bR]) (But.refl _ _) (by simp) _) hDR, Ext.setCell hE (by exact hRl.1) _⟩
        case measure => simp [intOf]; omega
      · have hdec : decide ((k : Int) < p) = false := by simp; omega
        have hdec' : decide (k < p) = false := by simp; omega
        have hkp : k = p := by omega
        subst hkp
        have kQ := kO.ext hE
        have cQ := kQ.cell
        have lQ := kQ.lt
        have hN5 : wr.ownsRow base 49 2 (.slice A1' g.ns.length a1') g.ns.length (vals ps) := own_ext hG.nodes hE
        have kOw := kQ.drew
        have hAk : ∀ q' ∈ (Value.slice A1' g.ns.length a1').ownBlock.toList, base ≤ q' ∧ q' < M ∧ q' < w1.heap.size := fun q' hq' => by
          have h1 := hG.lt .A q' (by simpa [kv] using hq')
          exact ⟨h1.1, hM .A q' (by simpa [kv] using hq'), h1.2⟩
        have hoA : o ∉ (Value.slice A1' g.ns.length a1').ownBlock.toList := fun hm => hG.off .A (by simpa [kv] using hm)
        obtain ⟨S, hS⟩ : ∃ S : List Nat, S = o :: (Value.slice A1' g.ns.length a1').ownBlock.toList := ⟨_, rfl⟩
        have hoS : o ∈ S := by rw [hS]; simp
        have hAS : ∀ q ∈ (Value.slice A1' g.ns.length a1').ownBlock.toList, q ∈ S := fun q hq => by rw [hS]; exact List.mem_cons_of_mem _ hq
        have hSW : ∀ q ∈ S, base ≤ q ∧ q < M := fun q hq => by
          rw [hS, List.mem_cons] at hq
          rcases hq with rfl | hq
          · exact hbo
          · exact ⟨(hAk q hq).1, (hAk q hq).2.1⟩
        have hz5 := hE.size_le
        have hzF := hF.size
        have hnb : b ∉ S := fun hm => by have := hSW b hm; omega
        have nbo : b ≠ o := by omega
        go_upto_region 12 with fail
        clear hS
        refine wp_region_treeN (wr.heap.size) S (.take 0 (.take 1 (.take 2 (.take 3 (.take 5 (.alt 4 (.alt 6 (.alt 7 (.take 8 (.take 9 (.alt 10 .done .none))) .none) .none) (.alt 6 (.alt 4 (.alt 7 (.take 8 (.take 9 (.alt 10 .done .none))) .none) .none) .none))))))) Try.mixed (by kernel_rfl) ?_
        intro hx
        first
          | (refine wpT_takeN hx (by simp) (v := ?_) (List.getElem?_toArray.trans (by rfl)) (by rfl) (fun _ hc => ?_) ?_
             rotate_left
             focus (go_simp; (try go_ints); exact rfl)
             simp only [Act.put, List.setIfInBounds_toArray, List.set_cons_zero, List.set_cons_succ])
          | (refine wpT_skip (List.getElem?_toArray.trans (by rfl)) (by rfl) ?_; simp only [Act.put, List.setIfInBounds_toArray, List.set_cons_zero, List.set_cons_succ])
        first
          | (refine wpT_takeN hx (by simp) (v := ?_) (List.getElem?_toArray.trans (by rfl)) (by rfl) (fun _ hc => ?_) ?_
             rotate_left
             focus (go_simp; (try go_ints); exact rfl)
             simp only [Act.put, List.setIfInBounds_toArray, List.set_cons_zero, List.set_cons_succ])
          | (refine wpT_skip (List.getElem?_toArray.trans (by rfl)) (by rfl) ?_; simp only [Act.put, List.setIfInBounds_toArray, List.set_cons_zero, List.set_cons_succ])
        first
          | (refine wpT_takeN hx (by simp) (v := ?_) (List.getElem?_toArray.trans (by rfl)) (by rfl) (fun _ hc => ?_) ?_
             rotate_left
             focus (go_simp; (try go_ints); exact rfl)
             simp only [Act.put, List.setIfInBounds_toArray, List.set_cons_zero, List.set_cons_succ])
          | (refine wpT_skip (List.getElem?_toArray.trans (by rfl)) (by rfl) ?_; simp only [Act.put, List.setIfInBounds_toArray, List.set_cons_zero, List.set_cons_succ])
        first
          | (refine wpT_takeN hx (by simp) (v := ?_) (List.getElem?_toArray.trans (by rfl)) (by rfl) (fun _ hc => ?_) ?_
             rotate_left
             focus (go_simp; (try go_ints); exact rfl)
             simp only [Act.put, List.setIfInBounds_toArray, List.set_cons_zero, List.set_cons_succ])
          | (refine wpT_skip (List.getElem?_toArray.trans (by rfl)) (by rfl) ?_; simp only [Act.put, List.setIfInBounds_toArray, List.set_cons_zero, List.set_cons_succ])
        first
          | (refine wpT_takeN hx (by simp) (v := ?_) (List.getElem?_toArray.trans (by rfl)) (by rfl) (fun _ hc => ?_) ?_
             rotate_left
             focus (go_simp; (try go_ints); exact rfl)
             simp only [Act.put, List.setIfInBounds_toArray, List.set_cons_zero, List.set_cons_succ])
          | (refine wpT_skip (List.getElem?_toArray.trans (by rfl)) (by rfl) ?_; simp only [Act.put, List.setIfInBounds_toArray, List.set_cons_zero, List.set_cons_succ])
        refine wpT_call (List.getElem?_toArray.trans (by rfl)) (by rfl) (fun K hK => ?_) ?_
        · skip
          have cOw := kOw.cell
          go_simp
          first | (refine hK _ _ ?_ ?_; (focus ((repeat (first | (with_reducible exact Bel.refl _ _ _) | assumption | (with_reducible exact Bel.alloc1 (by first | assumption | omega | (simp; omega))) | (with_reducible refine Bel.drew ?_) | (with_reducible refine Bel.drewL ?_) | (with_reducible refine Bel.setCell ?_ ?_ _; rotate_left; (focus (first | omega | (simp; done) | (simp; omega)))) | (with_reducible refine Bel.alloc ?_ _))); done))) | (refine hK undef _ ?_ ?_; (focus ((repeat (first | (with_reducible exact Bel.refl _ _ _) | assumption | (with_reducible exact Bel.alloc1 (by first | assumption | omega | (simp; omega))) | (with_reducible refine Bel.drew ?_) | (with_reducible refine Bel.drewL ?_) | (with_reducible refine Bel.setCell ?_ ?_ _; rotate_left; (focus (first | omega | (simp; done) | (simp; omega)))) | (with_reducible refine Bel.alloc ?_ _))); done)))
          clear hK
          intro hr
          replace hx := hx.trans hr
          clear hr
          try simp only [Act.put, List.setIfInBounds_toArray, List.set_cons_zero, List.set_cons_succ]
          refine wpT_call (List.getElem?_toArray.trans (by rfl)) (by rfl) (fun K hK => ?_) ?_
          · skip
            
            go_simp
            first | (refine hK _ _ ?_ ?_; (focus ((repeat (first | (with_reducible exact Bel.refl _ _ _) | assumption | (with_reducible exact Bel.alloc1 (by first | assumption | omega | (simp; omega))) | (with_reducible refine Bel.drew ?_) | (with_reducible refine Bel.drewL ?_) | (with_reducible refine Bel.setCell ?_ ?_ _; rotate_left; (focus (first | omega | (simp; done) | (simp; omega)))) | (with_reducible refine Bel.alloc ?_ _))); done))) | (refine hK undef _ ?_ ?_; (focus ((repeat (first | (with_reducible exact Bel.refl _ _ _) | assumption | (with_reducible exact Bel.alloc1 (by first | assumption | omega | (simp; omega))) | (with_reducible refine Bel.drew ?_) | (with_reducible refine Bel.drewL ?_) | (with_reducible refine Bel.setCell ?_ ?_ _; rotate_left; (focus (first | omega | (simp; done) | (simp; omega)))) | (with_reducible refine Bel.alloc ?_ _))); done)))
            clear hK
            intro hr
            replace kOw := blk_bel_alloc hr kOw
            replace hx := hx.trans hr
            clear hr
            try simp only [Act.put, List.setIfInBounds_toArray, List.set_cons_zero, List.set_cons_succ]
            refine wpT_call (List.getElem?_toArray.trans (by rfl)) (by rfl) (fun K hK => ?_) ?_
            · skip
              refine wp_append Try.el23 _ _ rfl base _ _ _ rfl (own_ext hN5 (by (repeat (first | (with_reducible exact Ext.refl _) | assumption | (with_reducible refine Ext.alloc ?_ _) | (with_reducible refine Ext.drew ?_) | (with_reducible refine Ext.drewL ?_) | refine Ext.trans ?_ (by assumption))))) _ 1 1 _ rfl (rd_new _ [_, _] 49 1 2 rfl) (by simp [Value.oneCell']) (by omega) (by omega) (by (first | omega | (simp; done) | (simp; omega))) ?_
              intro A2 c3 w3 hN3 hg3 hat3; replace kOw := kOw.but (but_grown hg3) hoA
              refine hK _ _ (((But.more (but_grown hg3) hAS).bel _)) ?_
              clear hK
              intro hr
              replace hx := hx.trans hr
              clear hr
              try simp only [Act.put, List.setIfInBounds_toArray, List.set_cons_zero, List.set_cons_succ]
              first
                | (refine wpT_takeN hx (by simp) (v := ?_) (List.getElem?_toArray.trans (by rfl)) (by rfl) (fun _ hc => ?_) ?_
                   rotate_left
                   focus (go_simp; (try go_ints); exact rfl)
                   simp only [Act.put, List.setIfInBounds_toArray, List.set_cons_zero, List.set_cons_succ])
                | (refine wpT_skip (List.getElem?_toArray.trans (by rfl)) (by rfl) ?_; simp only [Act.put, List.setIfInBounds_toArray, List.set_cons_zero, List.set_cons_succ])
              first
                | (refine wpT_takeN hx (by simp) (v := ?_) (List.getElem?_toArray.trans (by rfl)) (by rfl) (fun _ hc => ?_) ?_
                   rotate_left
                   focus (go_simp; (try go_ints); exact rfl)
                   simp only [Act.put, List.setIfInBounds_toArray, List.set_cons_zero, List.set_cons_succ])
                | (refine wpT_skip (List.getElem?_toArray.trans (by rfl)) (by rfl) ?_; simp only [Act.put, List.setIfInBounds_toArray, List.set_cons_zero, List.set_cons_succ])
              refine wpT_store (List.getElem?_toArray.trans (by rfl)) rfl (by rfl) (fun K hK => ?_) ?_
              · skip
                have cOw := kOw.cell; have fOw := kOw.froz
                go_simp
                refine hK _ ?_ ?_
                focus (exact (Bel.setIn (p := ⟨o, 0, none⟩) (Bel.refl _ _ _) hoS _); done)
                clear hK
                intro hr
                replace hx := hx.trans hr
                clear hr
                try simp only [Act.put, List.setIfInBounds_toArray, List.set_cons_zero, List.set_cons_succ]
                refine wpT_done ?_
                obtain ⟨kO6, hG6⟩ := fin_node (x := (List.replicate k (-1), List.replicate q 0)) hG kO (hE.trans (by (repeat (first | (with_reducible exact Ext.refl _) | assumption | (with_reducible refine Ext.alloc ?_ _) | (with_reducible refine Ext.drew ?_) | (with_reducible refine Ext.drewL ?_) | refine Ext.trans ?_ (by assumption))))) (by simpa [mdp] using hR) (by simpa using hD) (Ext.refl _) (by (repeat (first | (with_reducible exact Ext.refl _) | assumption | (with_reducible refine Ext.alloc ?_ _) | (with_reducible refine Ext.drew ?_) | (with_reducible refine Ext.drewL ?_) | refine Ext.trans ?_ (by assumption)))) (by omega) (by omega) (by omega) (by omega) hN3 hg3 hat3
                go_wp2
                go_ret2
                have hFf : Fr base M w1 _ := ⟨S, (hE.but S).trans (bel_drew hx).but, hSW⟩
                refine ⟨rfl, ⟨_, _, _, _, kO6, hG6, fun k b hb => (hG6.lt k b hb).2, hbo.1, ?_⟩, hF.trans hFf⟩
                exact kO6.lt
              exact wpT_none
            exact wpT_none
          exact wpT_none
        refine wpT_call (List.getElem?_toArray.trans (by rfl)) (by rfl) (fun K hK => ?_) ?_
        · skip
          
          go_simp
          first | (refine hK _ _ ?_ ?_; (focus ((repeat (first | (with_reducible exact Bel.refl _ _ _) | assumption | (with_reducible exact Bel.alloc1 (by first | assumption | omega | (simp; omega))) | (with_reducible refine Bel.drew ?_) | (with_reducible refine Bel.drewL ?_) | (with_reducible refine Bel.setCell ?_ ?_ _; rotate_left; (focus (first | omega | (simp; done) | (simp; omega)))) | (with_reducible refine Bel.alloc ?_ _))); done))) | (refine hK undef _ ?_ ?_; (focus ((repeat (first | (with_reducible exact Bel.refl _ _ _) | assumption | (with_reducible exact Bel.alloc1 (by first | assumption | omega | (simp; omega))) | (with_reducible refine Bel.drew ?_) | (with_reducible refine Bel.drewL ?_) | (with_reducible refine Bel.setCell ?_ ?_ _; rotate_left; (focus (first | omega | (simp; done) | (simp; omega)))) | (with_reducible refine Bel.alloc ?_ _))); done)))
          clear hK
          intro hr
          replace kOw := blk_bel_alloc hr kOw
          replace hx := hx.trans hr
          clear hr
          try simp only [Act.put, List.setIfInBounds_toArray, List.set_cons_zero, List.set_cons_succ]
          refine wpT_call (List.getElem?_toArray.trans (by rfl)) (by rfl) (fun K hK => ?_) ?_
          · skip
            have cOw := kOw.cell
            go_simp
            first | (refine hK _ _ ?_ ?_; (focus ((repeat (first | (with_reducible exact Bel.refl _ _ _) | assumption | (with_reducible exact Bel.alloc1 (by first | assumption | omega | (simp; omega))) | (with_reducible refine Bel.drew ?_) | (with_reducible refine Bel.drewL ?_) | (with_reducible refine Bel.setCell ?_ ?_ _; rotate_left; (focus (first | omega | (simp; done) | (simp; omega)))) | (with_reducible refine Bel.alloc ?_ _))); done))) | (refine hK undef _ ?_ ?_; (focus ((repeat (first | (with_reducible exact Bel.refl _ _ _) | assumption | (with_reducible exact Bel.alloc1 (by first | assumption | omega | (simp; omega))) | (with_reducible refine Bel.drew ?_) | (with_reducible refine Bel.drewL ?_) | (with_reducible refine Bel.setCell ?_ ?_ _; rotate_left; (focus (first | omega | (simp; done) | (simp; omega)))) | (with_reducible refine Bel.alloc ?_ _))); done)))
            clear hK
            intro hr
            replace hx := hx.trans hr
            clear hr
            try simp only [Act.put, List.setIfInBounds_toArray, List.set_cons_zero, List.set_cons_succ]
            refine wpT_call (List.getElem?_toArray.trans (by rfl)) (by rfl) (fun K hK => ?_) ?_
            · skip
              refine wp_append Try.el23 _ _ rfl base _ _ _ rfl (own_ext hN5 (by (repeat (first | (with_reducible exact Ext.refl _) | assumption | (with_reducible refine Ext.alloc ?_ _) | (with_reducible refine Ext.drew ?_) | (with_reducible refine Ext.drewL ?_) | refine Ext.trans ?_ (by assumption))))) _ 1 1 _ rfl (rd_new _ [_, _] 49 1 2 rfl) (by simp [Value.oneCell']) (by omega) (by omega) (by (first | omega | (simp; done) | (simp; omega))) ?_
              intro A2 c3 w3 hN3 hg3 hat3; replace kOw := kOw.but (but_grown hg3) hoA
              refine hK _ _ (((But.more (but_grown hg3) hAS).bel _)) ?_
              clear hK
              intro hr
              replace hx := hx.trans hr
              clear hr
              try simp only [Act.put, List.setIfInBounds_toArray, List.set_cons_zero, List.set_cons_succ]
              first
                | (refine wpT_takeN hx (by simp) (v := ?_) (List.getElem?_toArray.trans (by rfl)) (by rfl) (fun _ hc => ?_) ?_
                   rotate_left
                   focus (go_simp; (try go_ints); exact rfl)
                   simp only [Act.put, List.setIfInBounds_toArray, List.set_cons_zero, List.set_cons_succ])
                | (refine wpT_skip (List.getElem?_toArray.trans (by rfl)) (by rfl) ?_; simp only [Act.put, List.setIfInBounds_toArray, List.set_cons_zero, List.set_cons_succ])
              first
                | (refine wpT_takeN hx (by simp) (v := ?_) (List.getElem?_toArray.trans (by rfl)) (by rfl) (fun _ hc => ?_) ?_
                   rotate_left
                   focus (go_simp; (try go_ints); exact rfl)
                   simp only [Act.put, List.setIfInBounds_toArray, List.set_cons_zero, List.set_cons_succ])
                | (refine wpT_skip (List.getElem?_toArray.trans (by rfl)) (by rfl) ?_; simp only [Act.put, List.setIfInBounds_toArray, List.set_cons_zero, List.set_cons_succ])
              refine wpT_store (List.getElem?_toArray.trans (by rfl)) rfl (by rfl) (fun K hK => ?_) ?_
              · skip
                have cOw := kOw.cell; have fOw := kOw.froz
                go_simp
                refine hK _ ?_ ?_
                focus (exact (Bel.setIn (p := ⟨o, 0, none⟩) (Bel.refl _ _ _) hoS _); done)
                clear hK
                intro hr
                replace hx := hx.trans hr
                clear hr
                try simp only [Act.put, List.setIfInBounds_toArray, List.set_cons_zero, List.set_cons_succ]
                refine wpT_done ?_
                obtain ⟨kO6, hG6⟩ := fin_node (x := (List.replicate k (-1), List.replicate q 0)) hG kO (hE.trans (by (repeat (first | (with_reducible exact Ext.refl _) | assumption | (with_reducible refine Ext.alloc ?_ _) | (with_reducible refine Ext.drew ?_) | (with_reducible refine Ext.drewL ?_) | refine Ext.trans ?_ (by assumption))))) (by simpa [mdp] using hR) (by simpa using hD) (Ext.refl _) (by (repeat (first | (with_reducible exact Ext.refl _) | assumption | (with_reducible refine Ext.alloc ?_ _) | (with_reducible refine Ext.drew ?_) | (with_reducible refine Ext.drewL ?_) | refine Ext.trans ?_ (by assumption)))) (by omega) (by omega) (by omega) (by omega) hN3 hg3 hat3
                go_wp2
                go_ret2
                have hFf : Fr base M w1 _ := ⟨S, (hE.but S).trans (bel_drew hx).but, hSW⟩
                refine ⟨rfl, ⟨_, _, _, _, kO6, hG6, fun k b hb => (hG6.lt k b hb).2, hbo.1, ?_⟩, hF.trans hFf⟩
                exact kO6.lt
              exact wpT_none
            exact wpT_none
          exact wpT_none
        exact wpT_none
end Go.Proofs.Ytamghjilcfeheaa
