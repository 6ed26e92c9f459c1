/- The walks of the two New. Conditions: the ranges that each theorem states. -/
import Derived.Test.YtamghjilcfeheaaF
import Derived.Test.YtamghjilcfeheaaG
namespace Go.Proofs.Ytamghjilcfeheaa
open Go.RowKit Go.Draw

def newG : Gr := ⟨[], List.replicate 32 false, List.replicate 32 (-1)⟩
theorem newG_vld : Vld newG := by
  refine ⟨by simp [newG], by simp [newG], fun i r hu hr => ?_, fun i r hu hr => ?_, fun i x hx => by simp [newG] at hx⟩
  · simp only [newG, List.getElem?_replicate] at hr
    split at hr
    · injection hr with hr; exact hr.symm
    · cases hr
  · simp only [newG, List.getElem?_replicate] at hu
    split at hu
    · cases hu
    · cases hu
theorem own_bel {N : Nat} {S : List Nat} {w : World} {cs : Array Value} {e : TypeId} {n : Nat} (_ : Bel N S w (w.alloc (.cells cs e))) (hn : n ≤ 1000000) (hc : cs.size = n) : (w.alloc (.cells cs e)).ownsRow w.heap.size e 1 (.slice (some ⟨w.heap.size, 0, none⟩) n n) n cs.toList := by
  have := own_new (w := w) (cs := cs.toList) (e := e) (size := 1) (n := n) rfl (Nat.le_refl _) hn (by simpa using hc)
  simpa using this
theorem own_bel2 {N : Nat} {S : List Nat} {w : World} {cs : Array Value} {e : TypeId} {n : Nat} (_ : Bel N S w.drew (w.drew.alloc (.cells cs e))) (hn : n ≤ 1000000) (hc : cs.size = n) : (w.drew.alloc (.cells cs e)).ownsRow w.heap.size e 1 (.slice (some ⟨w.heap.size, 0, none⟩) n n) n cs.toList := own_bel (w := w.drew) (N := w.heap.size) (S := []) ((Bel.refl _ _ _).alloc _) hn hc
theorem Bel.both {N : Nat} {S : List Nat} {a b : World} (h : Bel N S a b) (hN : N ≤ a.heap.size) {o o' : Obj} : Bel N S (a.alloc o) (b.alloc o') := by
  have hb := h.size
  refine ⟨h.os, h.tape, h.output, by simpa using h.size, fun _ k hk hs => ?_⟩
  rw [RowKit.Below.heap_alloc _ _ _ (by omega), RowKit.Below.heap_alloc _ _ _ (by omega)]
  exact h.block hN k hk hs
theorem alloc_sz (w : World) (o : Obj) : (w.alloc o).heap.size = w.heap.size + 1 := by simp
def mid (k : Nat) : List Int := List.replicate k (-1) ++ List.replicate (32 - k) 0
theorem mid_len {k : Nat} (h : k ≤ 32) : (mid k).length = 32 := by simp [mid]; omega
theorem own_b {w : World} {base n : Nat} {v : Value} {cs : Array Value} (h : w.ownsRow base 4 1 v n cs.toList) (hc : cs = (List.replicate n (Value.bool false)).toArray) : w.ownsRow base 4 1 v (List.replicate n false).length (vb (List.replicate n false)) := by
  subst hc
  simpa [vb] using h
theorem own_c {w : World} {base : Nat} {v : Value} {cs : Array Value} (h : w.ownsRow base 3 1 v 32 cs.toList) (hc : cs = (List.replicate 32 (Value.int .i64 0)).toArray) : w.ownsRow base 3 1 v (mid 0).length (ints (mid 0)) := by
  subst hc
  have e : ints (mid 0) = List.replicate 32 (Value.int .i64 0) := by simp [ints, mid]
  rw [e, mid_len (by omega)]
  exact h
theorem mid_set {k : Nat} (h : k < 32) : (mid k).set k (-1) = mid (k + 1) := by
  unfold mid
  rw [List.set_append_right _ _ (by simp)]
  simp only [List.length_replicate, Nat.sub_self]
  rw [show 32 - k = (32 - (k + 1)) + 1 by omega, List.replicate_succ, List.set_cons_zero, List.replicate_succ', List.append_assoc]
  rfl

set_option maxRecDepth 100000 in
set_option maxHeartbeats 4000000 in
theorem new23_any (w : World) : Calls Try.prog 23 #[] w (RetG w newG) := by
  obtain ⟨cB, hcB⟩ : ∃ cB, cB = (List.replicate 32 (Value.bool false)).toArray := ⟨_, rfl⟩
  obtain ⟨cC, hcC⟩ : ∃ cC, cC = (List.replicate 32 (Value.int .i64 0)).toArray := ⟨_, rfl⟩
  have mB : ∀ W : World, (Instr.makeSlice 24 (.int .i64 32) (.int .i64 32)).run Try.prog W = .ok (.slice (some ⟨W.heap.size, 0, none⟩) 32 32) (W.alloc (.cells cB 4)) := fun W => by rw [hcB]; exact run_mk Try.el24 rfl 32 (by omega) (by omega) W
  have mC : ∀ W : World, (Instr.makeSlice 22 (.int .i64 32) (.int .i64 32)).run Try.prog W = .ok (.slice (some ⟨W.heap.size, 0, none⟩) 32 32) (W.alloc (.cells cC 3)) := fun W => by rw [hcC]; exact run_mk Try.el22 rfl 32 (by omega) (by omega) W
  have zB : cB.size = 32 := by rw [hcB]; rfl
  have zC : cC.size = 32 := by rw [hcC]; rfl
  have HB := Lib.hid hcB
  have HC := Lib.hid hcC
  clear hcB hcC
  go_enter Try.func23, Try.ntmps23
  go_upto_region 1 with fail
  have hX : Ext w (w.alloc (.cells #[.slice none 0 0, .slice none 0 0, .slice none 0 0] 26)) := Ext.alloc (Ext.refl w) _
  have k2 : Blk (w.alloc (.cells #[.slice none 0 0, .slice none 0 0, .slice none 0 0] 26)) w.heap.size 26 #[.slice none 0 0, .slice none 0 0, .slice none 0 0] := Blk.new rfl
  generalize hW : w.alloc (.cells #[.slice none 0 0, .slice none 0 0, .slice none 0 0] 26) = W at hX k2 ⊢
  have hsz : w.heap.size + 1 ≤ W.heap.size := by rw [← hW]; simp
  clear hW
  go_cut [1] (fun t wx => ∃ o vB vC, t = .pointer (some ⟨o, 0, none⟩) ∧ Blk wx o 26 #[.slice none 0 0, vB, vC] ∧ GOwn wx W.heap.size o (.slice none 0 0) vB vC [] ⟨[], List.replicate 32 false, mid 0⟩ ∧ Ext W wx ∧ W.heap.size ≤ o)
  case first =>
    refine wp_region_treeN (W.heap.size) [] (.alt 0 (.alt 1 (.take 2 (.alt 3 (.alt 4 .done .none) .none)) (.alt 3 (.alt 1 (.take 2 (.alt 4 .done .none)) .none) .none)) (.alt 1 (.alt 0 (.take 2 (.alt 3 (.alt 4 .done .none) .none)) (.alt 3 (.alt 0 (.take 2 (.alt 4 .done .none)) .none) .none)) (.alt 3 (.alt 0 (.alt 1 (.take 2 (.alt 4 .done .none)) .none) (.alt 1 (.alt 0 (.take 2 (.alt 4 .done .none)) .none) .none)) .none))) Try.mixed (by kernel_rfl) ?_
    intro hx
    refine wpT_call (List.getElem?_toArray.trans (by rfl)) (by rfl) (fun K hK => ?_) ?_
    · skip
      
      go_simp
      first | (refine hK _ _ ?_ ?_; (focus ((repeat (first | (with_reducible exact Bel.refl _ _ _) | assumption | (with_reducible exact Bel.alloc1 (by first | assumption | omega | (simp; omega))) | (with_reducible refine Bel.drew ?_) | (with_reducible refine Bel.drewL ?_) | (with_reducible refine Bel.setCell ?_ ?_ _; rotate_left; (focus (first | omega | (simp; done) | (simp; omega)))) | (with_reducible refine Bel.alloc ?_ _))); done))) | (refine hK undef _ ?_ ?_; (focus ((repeat (first | (with_reducible exact Bel.refl _ _ _) | assumption | (with_reducible exact Bel.alloc1 (by first | assumption | omega | (simp; omega))) | (with_reducible refine Bel.drew ?_) | (with_reducible refine Bel.drewL ?_) | (with_reducible refine Bel.setCell ?_ ?_ _; rotate_left; (focus (first | omega | (simp; done) | (simp; omega)))) | (with_reducible refine Bel.alloc ?_ _))); done)))
      clear hK
      intro hr
      (try have hB := own_bel (n := 32) hr (by omega) zB); (try have hB := own_bel2 (n := 32) hr (by omega) zB)
      replace hx := hx.trans hr
      clear hr
      try simp only [Act.put, List.setIfInBounds_toArray, List.set_cons_zero, List.set_cons_succ]
      refine wpT_call (List.getElem?_toArray.trans (by rfl)) (by rfl) (fun K hK => ?_) ?_
      · skip
        
        go_simp
        first | (refine hK _ _ ?_ ?_; (focus ((repeat (first | (with_reducible exact Bel.refl _ _ _) | assumption | (with_reducible exact Bel.alloc1 (by first | assumption | omega | (simp; omega))) | (with_reducible refine Bel.drew ?_) | (with_reducible refine Bel.drewL ?_) | (with_reducible refine Bel.setCell ?_ ?_ _; rotate_left; (focus (first | omega | (simp; done) | (simp; omega)))) | (with_reducible refine Bel.alloc ?_ _))); done))) | (refine hK undef _ ?_ ?_; (focus ((repeat (first | (with_reducible exact Bel.refl _ _ _) | assumption | (with_reducible exact Bel.alloc1 (by first | assumption | omega | (simp; omega))) | (with_reducible refine Bel.drew ?_) | (with_reducible refine Bel.drewL ?_) | (with_reducible refine Bel.setCell ?_ ?_ _; rotate_left; (focus (first | omega | (simp; done) | (simp; omega)))) | (with_reducible refine Bel.alloc ?_ _))); done)))
        clear hK
        intro hr
        (try have hC := own_bel (n := 32) hr (by omega) zC); (try have hC := own_bel2 (n := 32) hr (by omega) zC)
        replace hx := hx.trans hr
        clear hr
        try simp only [Act.put, List.setIfInBounds_toArray, List.set_cons_zero, List.set_cons_succ]
        first
          | (refine wpT_takeN hx (by simp) (v := ?_) (List.getElem?_toArray.trans (by rfl)) (by rfl) (fun _ hc => ?_) ?_
             rotate_left
             focus (go_simp; (try go_ints); exact rfl)
             simp only [Act.put, List.setIfInBounds_toArray, List.set_cons_zero, List.set_cons_succ])
          | (refine wpT_skip (List.getElem?_toArray.trans (by rfl)) (by rfl) ?_; simp only [Act.put, List.setIfInBounds_toArray, List.set_cons_zero, List.set_cons_succ])
        refine wpT_call (List.getElem?_toArray.trans (by rfl)) (by rfl) (fun K hK => ?_) ?_
        · skip
          go_simp
          first | (refine hK _ _ ?_ ?_; (focus ((repeat (first | (with_reducible exact Bel.refl _ _ _) | assumption | (with_reducible exact Bel.alloc1 (by first | assumption | omega | (simp; omega))) | (with_reducible refine Bel.drew ?_) | (with_reducible refine Bel.drewL ?_) | (with_reducible refine Bel.setCell ?_ ?_ _; rotate_left; (focus (first | omega | (simp; done) | (simp; omega)))) | (with_reducible refine Bel.alloc ?_ _))); done))) | (refine hK undef _ ?_ ?_; (focus ((repeat (first | (with_reducible exact Bel.refl _ _ _) | assumption | (with_reducible exact Bel.alloc1 (by first | assumption | omega | (simp; omega))) | (with_reducible refine Bel.drew ?_) | (with_reducible refine Bel.drewL ?_) | (with_reducible refine Bel.setCell ?_ ?_ _; rotate_left; (focus (first | omega | (simp; done) | (simp; omega)))) | (with_reducible refine Bel.alloc ?_ _))); done)))
          clear hK
          intro hr
          replace hx := hx.trans hr
          clear hr
          try simp only [Act.put, List.setIfInBounds_toArray, List.set_cons_zero, List.set_cons_succ]
          refine wpT_store (List.getElem?_toArray.trans (by rfl)) rfl (by rfl) (fun K hK => ?_) ?_
          · skip
            
            go_simp
            refine hK _ ?_ ?_
            focus (exact (by repeat (first | exact Bel.refl _ _ _ | exact Bel.alloc1 (by first | assumption | omega | (simp; done) | (simp; omega)) | refine Bel.drew ?_ | refine Bel.drewL ?_ | refine Bel.both ?_ (by first | omega | (simp; done) | (simp; omega)) | (refine Bel.setCell ?_ ?_ _; rotate_left; (focus (first | omega | (simp; done) | (simp; omega)))))); done)
            clear hK
            intro hr
            replace hx := hx.trans hr
            clear hr
            try simp only [Act.put, List.setIfInBounds_toArray, List.set_cons_zero, List.set_cons_succ]
            refine wpT_done ?_
            go_wp2
            go_meet
            have hB' := own_b hB HB.out
            have hC' := own_c hC HC.out
            clear hB hC
            refine ⟨_, _, _, rfl, ?_, fin_copy (us := List.replicate 32 false) (rs := mid 0) hB' hC' (by (repeat (first | (with_reducible exact But.refl _ _) | assumption | (with_reducible refine But.drew ?_) | (with_reducible refine But.drewL ?_) | (with_reducible refine But.setCell ?_ ?_ _; rotate_left; (focus (simp; done))) | (with_reducible refine But.setCellL ?_ ?_; rotate_left; (focus (simp; done))) | (with_reducible refine But.alloc2 ?_ ?_; rotate_left; (focus (simp [World.setCell]; done))) | (with_reducible refine But.allocL ?_ ?_ ?_; rotate_left; (focus (simp; done)); (focus (simp; done))) | (with_reducible refine But.alloc ?_ _)))) (by (repeat (first | (with_reducible exact But.refl _ _) | assumption | (with_reducible refine But.drew ?_) | (with_reducible refine But.drewL ?_) | (with_reducible refine But.setCell ?_ ?_ _; rotate_left; (focus (simp; done))) | (with_reducible refine But.setCellL ?_ ?_; rotate_left; (focus (simp; done))) | (with_reducible refine But.alloc2 ?_ ?_; rotate_left; (focus (simp [World.setCell]; done))) | (with_reducible refine But.allocL ?_ ?_ ?_; rotate_left; (focus (simp; done)); (focus (simp; done))) | (with_reducible refine But.alloc ?_ _)))) (by (first | omega | (simp; done) | (simp; omega))) (by (first | omega | (simp; done) | (simp; omega))) (by (first | omega | (simp; done) | (simp; omega))) (by (first | omega | (simp; done) | (simp; omega))), ext_bel hx, by (first | omega | (simp; done) | (simp; omega))⟩
            first
              | ((repeat (first | assumption | (with_reducible refine Blk.new ?_; (focus (simp; done))) | (with_reducible exact Blk.new rfl) | (with_reducible refine Blk.drew ?_) | (with_reducible refine Blk.alloc ?_ _) | refine Blk.ext ?_ (by assumption))); done)
              | (simp only [alloc_sz]; (repeat (first | assumption | (with_reducible refine Blk.new ?_; (focus (simp; done))) | (with_reducible exact Blk.new rfl) | (with_reducible refine Blk.drew ?_) | (with_reducible refine Blk.alloc ?_ _) | refine Blk.ext ?_ (by assumption))); done)
          exact wpT_none
        exact wpT_none
      refine wpT_call (List.getElem?_toArray.trans (by rfl)) (by rfl) (fun K hK => ?_) ?_
      · skip
        go_simp
        first | (refine hK _ _ ?_ ?_; (focus ((repeat (first | (with_reducible exact Bel.refl _ _ _) | assumption | (with_reducible exact Bel.alloc1 (by first | assumption | omega | (simp; omega))) | (with_reducible refine Bel.drew ?_) | (with_reducible refine Bel.drewL ?_) | (with_reducible refine Bel.setCell ?_ ?_ _; rotate_left; (focus (first | omega | (simp; done) | (simp; omega)))) | (with_reducible refine Bel.alloc ?_ _))); done))) | (refine hK undef _ ?_ ?_; (focus ((repeat (first | (with_reducible exact Bel.refl _ _ _) | assumption | (with_reducible exact Bel.alloc1 (by first | assumption | omega | (simp; omega))) | (with_reducible refine Bel.drew ?_) | (with_reducible refine Bel.drewL ?_) | (with_reducible refine Bel.setCell ?_ ?_ _; rotate_left; (focus (first | omega | (simp; done) | (simp; omega)))) | (with_reducible refine Bel.alloc ?_ _))); done)))
        clear hK
        intro hr
        replace hx := hx.trans hr
        clear hr
        try simp only [Act.put, List.setIfInBounds_toArray, List.set_cons_zero, List.set_cons_succ]
        refine wpT_call (List.getElem?_toArray.trans (by rfl)) (by rfl) (fun K hK => ?_) ?_
        · skip
          
          go_simp
          first | (refine hK _ _ ?_ ?_; (focus ((repeat (first | (with_reducible exact Bel.refl _ _ _) | assumption | (with_reducible exact Bel.alloc1 (by first | assumption | omega | (simp; omega))) | (with_reducible refine Bel.drew ?_) | (with_reducible refine Bel.drewL ?_) | (with_reducible refine Bel.setCell ?_ ?_ _; rotate_left; (focus (first | omega | (simp; done) | (simp; omega)))) | (with_reducible refine Bel.alloc ?_ _))); done))) | (refine hK undef _ ?_ ?_; (focus ((repeat (first | (with_reducible exact Bel.refl _ _ _) | assumption | (with_reducible exact Bel.alloc1 (by first | assumption | omega | (simp; omega))) | (with_reducible refine Bel.drew ?_) | (with_reducible refine Bel.drewL ?_) | (with_reducible refine Bel.setCell ?_ ?_ _; rotate_left; (focus (first | omega | (simp; done) | (simp; omega)))) | (with_reducible refine Bel.alloc ?_ _))); done)))
          clear hK
          intro hr
          (try have hC := own_bel (n := 32) hr (by omega) zC); (try have hC := own_bel2 (n := 32) hr (by omega) zC)
          replace hx := hx.trans hr
          clear hr
          try simp only [Act.put, List.setIfInBounds_toArray, List.set_cons_zero, List.set_cons_succ]
          first
            | (refine wpT_takeN hx (by simp) (v := ?_) (List.getElem?_toArray.trans (by rfl)) (by rfl) (fun _ hc => ?_) ?_
               rotate_left
               focus (go_simp; (try go_ints); exact rfl)
               simp only [Act.put, List.setIfInBounds_toArray, List.set_cons_zero, List.set_cons_succ])
            | (refine wpT_skip (List.getElem?_toArray.trans (by rfl)) (by rfl) ?_; simp only [Act.put, List.setIfInBounds_toArray, List.set_cons_zero, List.set_cons_succ])
          refine wpT_store (List.getElem?_toArray.trans (by rfl)) rfl (by rfl) (fun K hK => ?_) ?_
          · skip
            
            go_simp
            refine hK _ ?_ ?_
            focus (exact (by repeat (first | exact Bel.refl _ _ _ | exact Bel.alloc1 (by first | assumption | omega | (simp; done) | (simp; omega)) | refine Bel.drew ?_ | refine Bel.drewL ?_ | refine Bel.both ?_ (by first | omega | (simp; done) | (simp; omega)) | (refine Bel.setCell ?_ ?_ _; rotate_left; (focus (first | omega | (simp; done) | (simp; omega)))))); done)
            clear hK
            intro hr
            replace hx := hx.trans hr
            clear hr
            try simp only [Act.put, List.setIfInBounds_toArray, List.set_cons_zero, List.set_cons_succ]
            refine wpT_done ?_
            go_wp2
            go_meet
            have hB' := own_b hB HB.out
            have hC' := own_c hC HC.out
            clear hB hC
            refine ⟨_, _, _, rfl, ?_, fin_copy (us := List.replicate 32 false) (rs := mid 0) hB' hC' (by (repeat (first | (with_reducible exact But.refl _ _) | assumption | (with_reducible refine But.drew ?_) | (with_reducible refine But.drewL ?_) | (with_reducible refine But.setCell ?_ ?_ _; rotate_left; (focus (simp; done))) | (with_reducible refine But.setCellL ?_ ?_; rotate_left; (focus (simp; done))) | (with_reducible refine But.alloc2 ?_ ?_; rotate_left; (focus (simp [World.setCell]; done))) | (with_reducible refine But.allocL ?_ ?_ ?_; rotate_left; (focus (simp; done)); (focus (simp; done))) | (with_reducible refine But.alloc ?_ _)))) (by (repeat (first | (with_reducible exact But.refl _ _) | assumption | (with_reducible refine But.drew ?_) | (with_reducible refine But.drewL ?_) | (with_reducible refine But.setCell ?_ ?_ _; rotate_left; (focus (simp; done))) | (with_reducible refine But.setCellL ?_ ?_; rotate_left; (focus (simp; done))) | (with_reducible refine But.alloc2 ?_ ?_; rotate_left; (focus (simp [World.setCell]; done))) | (with_reducible refine But.allocL ?_ ?_ ?_; rotate_left; (focus (simp; done)); (focus (simp; done))) | (with_reducible refine But.alloc ?_ _)))) (by (first | omega | (simp; done) | (simp; omega))) (by (first | omega | (simp; done) | (simp; omega))) (by (first | omega | (simp; done) | (simp; omega))) (by (first | omega | (simp; done) | (simp; omega))), ext_bel hx, by (first | omega | (simp; done) | (simp; omega))⟩
            first
              | ((repeat (first | assumption | (with_reducible refine Blk.new ?_; (focus (simp; done))) | (with_reducible exact Blk.new rfl) | (with_reducible refine Blk.drew ?_) | (with_reducible refine Blk.alloc ?_ _) | refine Blk.ext ?_ (by assumption))); done)
              | (simp only [alloc_sz]; (repeat (first | assumption | (with_reducible refine Blk.new ?_; (focus (simp; done))) | (with_reducible exact Blk.new rfl) | (with_reducible refine Blk.drew ?_) | (with_reducible refine Blk.alloc ?_ _) | refine Blk.ext ?_ (by assumption))); done)
          exact wpT_none
        exact wpT_none
      exact wpT_none
    refine wpT_call (List.getElem?_toArray.trans (by rfl)) (by rfl) (fun K hK => ?_) ?_
    · skip
      
      go_simp
      first | (refine hK _ _ ?_ ?_; (focus ((repeat (first | (with_reducible exact Bel.refl _ _ _) | assumption | (with_reducible exact Bel.alloc1 (by first | assumption | omega | (simp; omega))) | (with_reducible refine Bel.drew ?_) | (with_reducible refine Bel.drewL ?_) | (with_reducible refine Bel.setCell ?_ ?_ _; rotate_left; (focus (first | omega | (simp; done) | (simp; omega)))) | (with_reducible refine Bel.alloc ?_ _))); done))) | (refine hK undef _ ?_ ?_; (focus ((repeat (first | (with_reducible exact Bel.refl _ _ _) | assumption | (with_reducible exact Bel.alloc1 (by first | assumption | omega | (simp; omega))) | (with_reducible refine Bel.drew ?_) | (with_reducible refine Bel.drewL ?_) | (with_reducible refine Bel.setCell ?_ ?_ _; rotate_left; (focus (first | omega | (simp; done) | (simp; omega)))) | (with_reducible refine Bel.alloc ?_ _))); done)))
      clear hK
      intro hr
      (try have hC := own_bel (n := 32) hr (by omega) zC); (try have hC := own_bel2 (n := 32) hr (by omega) zC)
      replace hx := hx.trans hr
      clear hr
      try simp only [Act.put, List.setIfInBounds_toArray, List.set_cons_zero, List.set_cons_succ]
      refine wpT_call (List.getElem?_toArray.trans (by rfl)) (by rfl) (fun K hK => ?_) ?_
      · skip
        
        go_simp
        first | (refine hK _ _ ?_ ?_; (focus ((repeat (first | (with_reducible exact Bel.refl _ _ _) | assumption | (with_reducible exact Bel.alloc1 (by first | assumption | omega | (simp; omega))) | (with_reducible refine Bel.drew ?_) | (with_reducible refine Bel.drewL ?_) | (with_reducible refine Bel.setCell ?_ ?_ _; rotate_left; (focus (first | omega | (simp; done) | (simp; omega)))) | (with_reducible refine Bel.alloc ?_ _))); done))) | (refine hK undef _ ?_ ?_; (focus ((repeat (first | (with_reducible exact Bel.refl _ _ _) | assumption | (with_reducible exact Bel.alloc1 (by first | assumption | omega | (simp; omega))) | (with_reducible refine Bel.drew ?_) | (with_reducible refine Bel.drewL ?_) | (with_reducible refine Bel.setCell ?_ ?_ _; rotate_left; (focus (first | omega | (simp; done) | (simp; omega)))) | (with_reducible refine Bel.alloc ?_ _))); done)))
        clear hK
        intro hr
        (try have hB := own_bel (n := 32) hr (by omega) zB); (try have hB := own_bel2 (n := 32) hr (by omega) zB)
        replace hx := hx.trans hr
        clear hr
        try simp only [Act.put, List.setIfInBounds_toArray, List.set_cons_zero, List.set_cons_succ]
        first
          | (refine wpT_takeN hx (by simp) (v := ?_) (List.getElem?_toArray.trans (by rfl)) (by rfl) (fun _ hc => ?_) ?_
             rotate_left
             focus (go_simp; (try go_ints); exact rfl)
             simp only [Act.put, List.setIfInBounds_toArray, List.set_cons_zero, List.set_cons_succ])
          | (refine wpT_skip (List.getElem?_toArray.trans (by rfl)) (by rfl) ?_; simp only [Act.put, List.setIfInBounds_toArray, List.set_cons_zero, List.set_cons_succ])
        refine wpT_call (List.getElem?_toArray.trans (by rfl)) (by rfl) (fun K hK => ?_) ?_
        · skip
          go_simp
          first | (refine hK _ _ ?_ ?_; (focus ((repeat (first | (with_reducible exact Bel.refl _ _ _) | assumption | (with_reducible exact Bel.alloc1 (by first | assumption | omega | (simp; omega))) | (with_reducible refine Bel.drew ?_) | (with_reducible refine Bel.drewL ?_) | (with_reducible refine Bel.setCell ?_ ?_ _; rotate_left; (focus (first | omega | (simp; done) | (simp; omega)))) | (with_reducible refine Bel.alloc ?_ _))); done))) | (refine hK undef _ ?_ ?_; (focus ((repeat (first | (with_reducible exact Bel.refl _ _ _) | assumption | (with_reducible exact Bel.alloc1 (by first | assumption | omega | (simp; omega))) | (with_reducible refine Bel.drew ?_) | (with_reducible refine Bel.drewL ?_) | (with_reducible refine Bel.setCell ?_ ?_ _; rotate_left; (focus (first | omega | (simp; done) | (simp; omega)))) | (with_reducible refine Bel.alloc ?_ _))); done)))
          clear hK
          intro hr
          replace hx := hx.trans hr
          clear hr
          try simp only [Act.put, List.setIfInBounds_toArray, List.set_cons_zero, List.set_cons_succ]
          refine wpT_store (List.getElem?_toArray.trans (by rfl)) rfl (by rfl) (fun K hK => ?_) ?_
          · skip
            
            go_simp
            refine hK _ ?_ ?_
            focus (exact (by repeat (first | exact Bel.refl _ _ _ | exact Bel.alloc1 (by first | assumption | omega | (simp; done) | (simp; omega)) | refine Bel.drew ?_ | refine Bel.drewL ?_ | refine Bel.both ?_ (by first | omega | (simp; done) | (simp; omega)) | (refine Bel.setCell ?_ ?_ _; rotate_left; (focus (first | omega | (simp; done) | (simp; omega)))))); done)
            clear hK
            intro hr
            replace hx := hx.trans hr
            clear hr
            try simp only [Act.put, List.setIfInBounds_toArray, List.set_cons_zero, List.set_cons_succ]
            refine wpT_done ?_
            go_wp2
            go_meet
            have hB' := own_b hB HB.out
            have hC' := own_c hC HC.out
            clear hB hC
            refine ⟨_, _, _, rfl, ?_, fin_copy (us := List.replicate 32 false) (rs := mid 0) hB' hC' (by (repeat (first | (with_reducible exact But.refl _ _) | assumption | (with_reducible refine But.drew ?_) | (with_reducible refine But.drewL ?_) | (with_reducible refine But.setCell ?_ ?_ _; rotate_left; (focus (simp; done))) | (with_reducible refine But.setCellL ?_ ?_; rotate_left; (focus (simp; done))) | (with_reducible refine But.alloc2 ?_ ?_; rotate_left; (focus (simp [World.setCell]; done))) | (with_reducible refine But.allocL ?_ ?_ ?_; rotate_left; (focus (simp; done)); (focus (simp; done))) | (with_reducible refine But.alloc ?_ _)))) (by (repeat (first | (with_reducible exact But.refl _ _) | assumption | (with_reducible refine But.drew ?_) | (with_reducible refine But.drewL ?_) | (with_reducible refine But.setCell ?_ ?_ _; rotate_left; (focus (simp; done))) | (with_reducible refine But.setCellL ?_ ?_; rotate_left; (focus (simp; done))) | (with_reducible refine But.alloc2 ?_ ?_; rotate_left; (focus (simp [World.setCell]; done))) | (with_reducible refine But.allocL ?_ ?_ ?_; rotate_left; (focus (simp; done)); (focus (simp; done))) | (with_reducible refine But.alloc ?_ _)))) (by (first | omega | (simp; done) | (simp; omega))) (by (first | omega | (simp; done) | (simp; omega))) (by (first | omega | (simp; done) | (simp; omega))) (by (first | omega | (simp; done) | (simp; omega))), ext_bel hx, by (first | omega | (simp; done) | (simp; omega))⟩
            first
              | ((repeat (first | assumption | (with_reducible refine Blk.new ?_; (focus (simp; done))) | (with_reducible exact Blk.new rfl) | (with_reducible refine Blk.drew ?_) | (with_reducible refine Blk.alloc ?_ _) | refine Blk.ext ?_ (by assumption))); done)
              | (simp only [alloc_sz]; (repeat (first | assumption | (with_reducible refine Blk.new ?_; (focus (simp; done))) | (with_reducible exact Blk.new rfl) | (with_reducible refine Blk.drew ?_) | (with_reducible refine Blk.alloc ?_ _) | refine Blk.ext ?_ (by assumption))); done)
          exact wpT_none
        exact wpT_none
      refine wpT_call (List.getElem?_toArray.trans (by rfl)) (by rfl) (fun K hK => ?_) ?_
      · skip
        go_simp
        first | (refine hK _ _ ?_ ?_; (focus ((repeat (first | (with_reducible exact Bel.refl _ _ _) | assumption | (with_reducible exact Bel.alloc1 (by first | assumption | omega | (simp; omega))) | (with_reducible refine Bel.drew ?_) | (with_reducible refine Bel.drewL ?_) | (with_reducible refine Bel.setCell ?_ ?_ _; rotate_left; (focus (first | omega | (simp; done) | (simp; omega)))) | (with_reducible refine Bel.alloc ?_ _))); done))) | (refine hK undef _ ?_ ?_; (focus ((repeat (first | (with_reducible exact Bel.refl _ _ _) | assumption | (with_reducible exact Bel.alloc1 (by first | assumption | omega | (simp; omega))) | (with_reducible refine Bel.drew ?_) | (with_reducible refine Bel.drewL ?_) | (with_reducible refine Bel.setCell ?_ ?_ _; rotate_left; (focus (first | omega | (simp; done) | (simp; omega)))) | (with_reducible refine Bel.alloc ?_ _))); done)))
        clear hK
        intro hr
        replace hx := hx.trans hr
        clear hr
        try simp only [Act.put, List.setIfInBounds_toArray, List.set_cons_zero, List.set_cons_succ]
        refine wpT_call (List.getElem?_toArray.trans (by rfl)) (by rfl) (fun K hK => ?_) ?_
        · skip
          
          go_simp
          first | (refine hK _ _ ?_ ?_; (focus ((repeat (first | (with_reducible exact Bel.refl _ _ _) | assumption | (with_reducible exact Bel.alloc1 (by first | assumption | omega | (simp; omega))) | (with_reducible refine Bel.drew ?_) | (with_reducible refine Bel.drewL ?_) | (with_reducible refine Bel.setCell ?_ ?_ _; rotate_left; (focus (first | omega | (simp; done) | (simp; omega)))) | (with_reducible refine Bel.alloc ?_ _))); done))) | (refine hK undef _ ?_ ?_; (focus ((repeat (first | (with_reducible exact Bel.refl _ _ _) | assumption | (with_reducible exact Bel.alloc1 (by first | assumption | omega | (simp; omega))) | (with_reducible refine Bel.drew ?_) | (with_reducible refine Bel.drewL ?_) | (with_reducible refine Bel.setCell ?_ ?_ _; rotate_left; (focus (first | omega | (simp; done) | (simp; omega)))) | (with_reducible refine Bel.alloc ?_ _))); done)))
          clear hK
          intro hr
          (try have hB := own_bel (n := 32) hr (by omega) zB); (try have hB := own_bel2 (n := 32) hr (by omega) zB)
          replace hx := hx.trans hr
          clear hr
          try simp only [Act.put, List.setIfInBounds_toArray, List.set_cons_zero, List.set_cons_succ]
          first
            | (refine wpT_takeN hx (by simp) (v := ?_) (List.getElem?_toArray.trans (by rfl)) (by rfl) (fun _ hc => ?_) ?_
               rotate_left
               focus (go_simp; (try go_ints); exact rfl)
               simp only [Act.put, List.setIfInBounds_toArray, List.set_cons_zero, List.set_cons_succ])
            | (refine wpT_skip (List.getElem?_toArray.trans (by rfl)) (by rfl) ?_; simp only [Act.put, List.setIfInBounds_toArray, List.set_cons_zero, List.set_cons_succ])
          refine wpT_store (List.getElem?_toArray.trans (by rfl)) rfl (by rfl) (fun K hK => ?_) ?_
          · skip
            
            go_simp
            refine hK _ ?_ ?_
            focus (exact (by repeat (first | exact Bel.refl _ _ _ | exact Bel.alloc1 (by first | assumption | omega | (simp; done) | (simp; omega)) | refine Bel.drew ?_ | refine Bel.drewL ?_ | refine Bel.both ?_ (by first | omega | (simp; done) | (simp; omega)) | (refine Bel.setCell ?_ ?_ _; rotate_left; (focus (first | omega | (simp; done) | (simp; omega)))))); done)
            clear hK
            intro hr
            replace hx := hx.trans hr
            clear hr
            try simp only [Act.put, List.setIfInBounds_toArray, List.set_cons_zero, List.set_cons_succ]
            refine wpT_done ?_
            go_wp2
            go_meet
            have hB' := own_b hB HB.out
            have hC' := own_c hC HC.out
            clear hB hC
            refine ⟨_, _, _, rfl, ?_, fin_copy (us := List.replicate 32 false) (rs := mid 0) hB' hC' (by (repeat (first | (with_reducible exact But.refl _ _) | assumption | (with_reducible refine But.drew ?_) | (with_reducible refine But.drewL ?_) | (with_reducible refine But.setCell ?_ ?_ _; rotate_left; (focus (simp; done))) | (with_reducible refine But.setCellL ?_ ?_; rotate_left; (focus (simp; done))) | (with_reducible refine But.alloc2 ?_ ?_; rotate_left; (focus (simp [World.setCell]; done))) | (with_reducible refine But.allocL ?_ ?_ ?_; rotate_left; (focus (simp; done)); (focus (simp; done))) | (with_reducible refine But.alloc ?_ _)))) (by (repeat (first | (with_reducible exact But.refl _ _) | assumption | (with_reducible refine But.drew ?_) | (with_reducible refine But.drewL ?_) | (with_reducible refine But.setCell ?_ ?_ _; rotate_left; (focus (simp; done))) | (with_reducible refine But.setCellL ?_ ?_; rotate_left; (focus (simp; done))) | (with_reducible refine But.alloc2 ?_ ?_; rotate_left; (focus (simp [World.setCell]; done))) | (with_reducible refine But.allocL ?_ ?_ ?_; rotate_left; (focus (simp; done)); (focus (simp; done))) | (with_reducible refine But.alloc ?_ _)))) (by (first | omega | (simp; done) | (simp; omega))) (by (first | omega | (simp; done) | (simp; omega))) (by (first | omega | (simp; done) | (simp; omega))) (by (first | omega | (simp; done) | (simp; omega))), ext_bel hx, by (first | omega | (simp; done) | (simp; omega))⟩
            first
              | ((repeat (first | assumption | (with_reducible refine Blk.new ?_; (focus (simp; done))) | (with_reducible exact Blk.new rfl) | (with_reducible refine Blk.drew ?_) | (with_reducible refine Blk.alloc ?_ _) | refine Blk.ext ?_ (by assumption))); done)
              | (simp only [alloc_sz]; (repeat (first | assumption | (with_reducible refine Blk.new ?_; (focus (simp; done))) | (with_reducible exact Blk.new rfl) | (with_reducible refine Blk.drew ?_) | (with_reducible refine Blk.alloc ?_ _) | refine Blk.ext ?_ (by assumption))); done)
          exact wpT_none
        exact wpT_none
      exact wpT_none
    refine wpT_call (List.getElem?_toArray.trans (by rfl)) (by rfl) (fun K hK => ?_) ?_
    · skip
      go_simp
      first | (refine hK _ _ ?_ ?_; (focus ((repeat (first | (with_reducible exact Bel.refl _ _ _) | assumption | (with_reducible exact Bel.alloc1 (by first | assumption | omega | (simp; omega))) | (with_reducible refine Bel.drew ?_) | (with_reducible refine Bel.drewL ?_) | (with_reducible refine Bel.setCell ?_ ?_ _; rotate_left; (focus (first | omega | (simp; done) | (simp; omega)))) | (with_reducible refine Bel.alloc ?_ _))); done))) | (refine hK undef _ ?_ ?_; (focus ((repeat (first | (with_reducible exact Bel.refl _ _ _) | assumption | (with_reducible exact Bel.alloc1 (by first | assumption | omega | (simp; omega))) | (with_reducible refine Bel.drew ?_) | (with_reducible refine Bel.drewL ?_) | (with_reducible refine Bel.setCell ?_ ?_ _; rotate_left; (focus (first | omega | (simp; done) | (simp; omega)))) | (with_reducible refine Bel.alloc ?_ _))); done)))
      clear hK
      intro hr
      replace hx := hx.trans hr
      clear hr
      try simp only [Act.put, List.setIfInBounds_toArray, List.set_cons_zero, List.set_cons_succ]
      refine wpT_call (List.getElem?_toArray.trans (by rfl)) (by rfl) (fun K hK => ?_) ?_
      · skip
        
        go_simp
        first | (refine hK _ _ ?_ ?_; (focus ((repeat (first | (with_reducible exact Bel.refl _ _ _) | assumption | (with_reducible exact Bel.alloc1 (by first | assumption | omega | (simp; omega))) | (with_reducible refine Bel.drew ?_) | (with_reducible refine Bel.drewL ?_) | (with_reducible refine Bel.setCell ?_ ?_ _; rotate_left; (focus (first | omega | (simp; done) | (simp; omega)))) | (with_reducible refine Bel.alloc ?_ _))); done))) | (refine hK undef _ ?_ ?_; (focus ((repeat (first | (with_reducible exact Bel.refl _ _ _) | assumption | (with_reducible exact Bel.alloc1 (by first | assumption | omega | (simp; omega))) | (with_reducible refine Bel.drew ?_) | (with_reducible refine Bel.drewL ?_) | (with_reducible refine Bel.setCell ?_ ?_ _; rotate_left; (focus (first | omega | (simp; done) | (simp; omega)))) | (with_reducible refine Bel.alloc ?_ _))); done)))
        clear hK
        intro hr
        (try have hB := own_bel (n := 32) hr (by omega) zB); (try have hB := own_bel2 (n := 32) hr (by omega) zB)
        replace hx := hx.trans hr
        clear hr
        try simp only [Act.put, List.setIfInBounds_toArray, List.set_cons_zero, List.set_cons_succ]
        refine wpT_call (List.getElem?_toArray.trans (by rfl)) (by rfl) (fun K hK => ?_) ?_
        · skip
          
          go_simp
          first | (refine hK _ _ ?_ ?_; (focus ((repeat (first | (with_reducible exact Bel.refl _ _ _) | assumption | (with_reducible exact Bel.alloc1 (by first | assumption | omega | (simp; omega))) | (with_reducible refine Bel.drew ?_) | (with_reducible refine Bel.drewL ?_) | (with_reducible refine Bel.setCell ?_ ?_ _; rotate_left; (focus (first | omega | (simp; done) | (simp; omega)))) | (with_reducible refine Bel.alloc ?_ _))); done))) | (refine hK undef _ ?_ ?_; (focus ((repeat (first | (with_reducible exact Bel.refl _ _ _) | assumption | (with_reducible exact Bel.alloc1 (by first | assumption | omega | (simp; omega))) | (with_reducible refine Bel.drew ?_) | (with_reducible refine Bel.drewL ?_) | (with_reducible refine Bel.setCell ?_ ?_ _; rotate_left; (focus (first | omega | (simp; done) | (simp; omega)))) | (with_reducible refine Bel.alloc ?_ _))); done)))
          clear hK
          intro hr
          (try have hC := own_bel (n := 32) hr (by omega) zC); (try have hC := own_bel2 (n := 32) hr (by omega) zC)
          replace hx := hx.trans hr
          clear hr
          try simp only [Act.put, List.setIfInBounds_toArray, List.set_cons_zero, List.set_cons_succ]
          first
            | (refine wpT_takeN hx (by simp) (v := ?_) (List.getElem?_toArray.trans (by rfl)) (by rfl) (fun _ hc => ?_) ?_
               rotate_left
               focus (go_simp; (try go_ints); exact rfl)
               simp only [Act.put, List.setIfInBounds_toArray, List.set_cons_zero, List.set_cons_succ])
            | (refine wpT_skip (List.getElem?_toArray.trans (by rfl)) (by rfl) ?_; simp only [Act.put, List.setIfInBounds_toArray, List.set_cons_zero, List.set_cons_succ])
          refine wpT_store (List.getElem?_toArray.trans (by rfl)) rfl (by rfl) (fun K hK => ?_) ?_
          · skip
            
            go_simp
            refine hK _ ?_ ?_
            focus (exact (by repeat (first | exact Bel.refl _ _ _ | exact Bel.alloc1 (by first | assumption | omega | (simp; done) | (simp; omega)) | refine Bel.drew ?_ | refine Bel.drewL ?_ | refine Bel.both ?_ (by first | omega | (simp; done) | (simp; omega)) | (refine Bel.setCell ?_ ?_ _; rotate_left; (focus (first | omega | (simp; done) | (simp; omega)))))); done)
            clear hK
            intro hr
            replace hx := hx.trans hr
            clear hr
            try simp only [Act.put, List.setIfInBounds_toArray, List.set_cons_zero, List.set_cons_succ]
            refine wpT_done ?_
            go_wp2
            go_meet
            have hB' := own_b hB HB.out
            have hC' := own_c hC HC.out
            clear hB hC
            refine ⟨_, _, _, rfl, ?_, fin_copy (us := List.replicate 32 false) (rs := mid 0) hB' hC' (by (repeat (first | (with_reducible exact But.refl _ _) | assumption | (with_reducible refine But.drew ?_) | (with_reducible refine But.drewL ?_) | (with_reducible refine But.setCell ?_ ?_ _; rotate_left; (focus (simp; done))) | (with_reducible refine But.setCellL ?_ ?_; rotate_left; (focus (simp; done))) | (with_reducible refine But.alloc2 ?_ ?_; rotate_left; (focus (simp [World.setCell]; done))) | (with_reducible refine But.allocL ?_ ?_ ?_; rotate_left; (focus (simp; done)); (focus (simp; done))) | (with_reducible refine But.alloc ?_ _)))) (by (repeat (first | (with_reducible exact But.refl _ _) | assumption | (with_reducible refine But.drew ?_) | (with_reducible refine But.drewL ?_) | (with_reducible refine But.setCell ?_ ?_ _; rotate_left; (focus (simp; done))) | (with_reducible refine But.setCellL ?_ ?_; rotate_left; (focus (simp; done))) | (with_reducible refine But.alloc2 ?_ ?_; rotate_left; (focus (simp [World.setCell]; done))) | (with_reducible refine But.allocL ?_ ?_ ?_; rotate_left; (focus (simp; done)); (focus (simp; done))) | (with_reducible refine But.alloc ?_ _)))) (by (first | omega | (simp; done) | (simp; omega))) (by (first | omega | (simp; done) | (simp; omega))) (by (first | omega | (simp; done) | (simp; omega))) (by (first | omega | (simp; done) | (simp; omega))), ext_bel hx, by (first | omega | (simp; done) | (simp; omega))⟩
            first
              | ((repeat (first | assumption | (with_reducible refine Blk.new ?_; (focus (simp; done))) | (with_reducible exact Blk.new rfl) | (with_reducible refine Blk.drew ?_) | (with_reducible refine Blk.alloc ?_ _) | refine Blk.ext ?_ (by assumption))); done)
              | (simp only [alloc_sz]; (repeat (first | assumption | (with_reducible refine Blk.new ?_; (focus (simp; done))) | (with_reducible exact Blk.new rfl) | (with_reducible refine Blk.drew ?_) | (with_reducible refine Blk.alloc ?_ _) | refine Blk.ext ?_ (by assumption))); done)
          exact wpT_none
        exact wpT_none
      refine wpT_call (List.getElem?_toArray.trans (by rfl)) (by rfl) (fun K hK => ?_) ?_
      · skip
        
        go_simp
        first | (refine hK _ _ ?_ ?_; (focus ((repeat (first | (with_reducible exact Bel.refl _ _ _) | assumption | (with_reducible exact Bel.alloc1 (by first | assumption | omega | (simp; omega))) | (with_reducible refine Bel.drew ?_) | (with_reducible refine Bel.drewL ?_) | (with_reducible refine Bel.setCell ?_ ?_ _; rotate_left; (focus (first | omega | (simp; done) | (simp; omega)))) | (with_reducible refine Bel.alloc ?_ _))); done))) | (refine hK undef _ ?_ ?_; (focus ((repeat (first | (with_reducible exact Bel.refl _ _ _) | assumption | (with_reducible exact Bel.alloc1 (by first | assumption | omega | (simp; omega))) | (with_reducible refine Bel.drew ?_) | (with_reducible refine Bel.drewL ?_) | (with_reducible refine Bel.setCell ?_ ?_ _; rotate_left; (focus (first | omega | (simp; done) | (simp; omega)))) | (with_reducible refine Bel.alloc ?_ _))); done)))
        clear hK
        intro hr
        (try have hC := own_bel (n := 32) hr (by omega) zC); (try have hC := own_bel2 (n := 32) hr (by omega) zC)
        replace hx := hx.trans hr
        clear hr
        try simp only [Act.put, List.setIfInBounds_toArray, List.set_cons_zero, List.set_cons_succ]
        refine wpT_call (List.getElem?_toArray.trans (by rfl)) (by rfl) (fun K hK => ?_) ?_
        · skip
          
          go_simp
          first | (refine hK _ _ ?_ ?_; (focus ((repeat (first | (with_reducible exact Bel.refl _ _ _) | assumption | (with_reducible exact Bel.alloc1 (by first | assumption | omega | (simp; omega))) | (with_reducible refine Bel.drew ?_) | (with_reducible refine Bel.drewL ?_) | (with_reducible refine Bel.setCell ?_ ?_ _; rotate_left; (focus (first | omega | (simp; done) | (simp; omega)))) | (with_reducible refine Bel.alloc ?_ _))); done))) | (refine hK undef _ ?_ ?_; (focus ((repeat (first | (with_reducible exact Bel.refl _ _ _) | assumption | (with_reducible exact Bel.alloc1 (by first | assumption | omega | (simp; omega))) | (with_reducible refine Bel.drew ?_) | (with_reducible refine Bel.drewL ?_) | (with_reducible refine Bel.setCell ?_ ?_ _; rotate_left; (focus (first | omega | (simp; done) | (simp; omega)))) | (with_reducible refine Bel.alloc ?_ _))); done)))
          clear hK
          intro hr
          (try have hB := own_bel (n := 32) hr (by omega) zB); (try have hB := own_bel2 (n := 32) hr (by omega) zB)
          replace hx := hx.trans hr
          clear hr
          try simp only [Act.put, List.setIfInBounds_toArray, List.set_cons_zero, List.set_cons_succ]
          first
            | (refine wpT_takeN hx (by simp) (v := ?_) (List.getElem?_toArray.trans (by rfl)) (by rfl) (fun _ hc => ?_) ?_
               rotate_left
               focus (go_simp; (try go_ints); exact rfl)
               simp only [Act.put, List.setIfInBounds_toArray, List.set_cons_zero, List.set_cons_succ])
            | (refine wpT_skip (List.getElem?_toArray.trans (by rfl)) (by rfl) ?_; simp only [Act.put, List.setIfInBounds_toArray, List.set_cons_zero, List.set_cons_succ])
          refine wpT_store (List.getElem?_toArray.trans (by rfl)) rfl (by rfl) (fun K hK => ?_) ?_
          · skip
            
            go_simp
            refine hK _ ?_ ?_
            focus (exact (by repeat (first | exact Bel.refl _ _ _ | exact Bel.alloc1 (by first | assumption | omega | (simp; done) | (simp; omega)) | refine Bel.drew ?_ | refine Bel.drewL ?_ | refine Bel.both ?_ (by first | omega | (simp; done) | (simp; omega)) | (refine Bel.setCell ?_ ?_ _; rotate_left; (focus (first | omega | (simp; done) | (simp; omega)))))); done)
            clear hK
            intro hr
            replace hx := hx.trans hr
            clear hr
            try simp only [Act.put, List.setIfInBounds_toArray, List.set_cons_zero, List.set_cons_succ]
            refine wpT_done ?_
            go_wp2
            go_meet
            have hB' := own_b hB HB.out
            have hC' := own_c hC HC.out
            clear hB hC
            refine ⟨_, _, _, rfl, ?_, fin_copy (us := List.replicate 32 false) (rs := mid 0) hB' hC' (by (repeat (first | (with_reducible exact But.refl _ _) | assumption | (with_reducible refine But.drew ?_) | (with_reducible refine But.drewL ?_) | (with_reducible refine But.setCell ?_ ?_ _; rotate_left; (focus (simp; done))) | (with_reducible refine But.setCellL ?_ ?_; rotate_left; (focus (simp; done))) | (with_reducible refine But.alloc2 ?_ ?_; rotate_left; (focus (simp [World.setCell]; done))) | (with_reducible refine But.allocL ?_ ?_ ?_; rotate_left; (focus (simp; done)); (focus (simp; done))) | (with_reducible refine But.alloc ?_ _)))) (by (repeat (first | (with_reducible exact But.refl _ _) | assumption | (with_reducible refine But.drew ?_) | (with_reducible refine But.drewL ?_) | (with_reducible refine But.setCell ?_ ?_ _; rotate_left; (focus (simp; done))) | (with_reducible refine But.setCellL ?_ ?_; rotate_left; (focus (simp; done))) | (with_reducible refine But.alloc2 ?_ ?_; rotate_left; (focus (simp [World.setCell]; done))) | (with_reducible refine But.allocL ?_ ?_ ?_; rotate_left; (focus (simp; done)); (focus (simp; done))) | (with_reducible refine But.alloc ?_ _)))) (by (first | omega | (simp; done) | (simp; omega))) (by (first | omega | (simp; done) | (simp; omega))) (by (first | omega | (simp; done) | (simp; omega))) (by (first | omega | (simp; done) | (simp; omega))), ext_bel hx, by (first | omega | (simp; done) | (simp; omega))⟩
            first
              | ((repeat (first | assumption | (with_reducible refine Blk.new ?_; (focus (simp; done))) | (with_reducible exact Blk.new rfl) | (with_reducible refine Blk.drew ?_) | (with_reducible refine Blk.alloc ?_ _) | refine Blk.ext ?_ (by assumption))); done)
              | (simp only [alloc_sz]; (repeat (first | assumption | (with_reducible refine Blk.new ?_; (focus (simp; done))) | (with_reducible exact Blk.new rfl) | (with_reducible refine Blk.drew ?_) | (with_reducible refine Blk.alloc ?_ _) | refine Blk.ext ?_ (by assumption))); done)
          exact wpT_none
        exact wpT_none
      exact wpT_none
    exact wpT_none
  case rest =>
    obtain ⟨o, vB, vC, rfl, kO, hG, hEW, hoW⟩ := hcut
    obtain ⟨B1, b1', rfl⟩ := own_slice hG.used
    obtain ⟨C1, c1', rfl⟩ := own_slice hG.roots
    simp only [List.length_replicate, mid_len (Nat.zero_le 32)] at kO hG
    have lO := kO.lt
    have cO := kO.cell
    go_wp2_with fail
    go_loopw [9] (fun i wr => ∃ (k : Nat), k ≤ 32 ∧ i = .int .i64 k ∧ Blk wr o 26 #[.slice none 0 0, .slice B1 32 b1', .slice C1 32 c1'] ∧ GOwn wr W.heap.size o (.slice none 0 0) (.slice B1 32 b1') (.slice C1 32 c1') [] ⟨[], List.replicate 32 false, mid k⟩ ∧ Ext W wr) (fun i _ => 32 - (intOf i).toNat)
    case atStart => exact ⟨0, by omega, rfl, kO, hG, hEW⟩
    case round =>
      clear kO hG hEW lO cO
      obtain ⟨k, hk, rfl, kO, hG, hEW⟩ := hrel
      have cO := kO.cell
      have fO := kO.froz
      have lO := kO.lt
      by_cases hlt : k < 32
      · have hdec : decide ((k : Int) < 32) = true := by simp; omega
        have hdec' : decide (k < 32) = true := by simp; omega
        have hkb : (k : Int) < 32 := by omega
        have hrt := hG.roots
        simp only [mid_len hk] at hrt
        obtain ⟨bC, cC', e⟩ := own_at hrt (by omega)
        injection e with e1 e2 e3
        subst e1
        subst e3
        obtain ⟨cCc, fC⟩ := own_cells hrt
        have hCi := cCc k (.int .i64 ((mid k).getD k 0)) (ints_at (by rw [List.getElem?_eq_getElem (by rw [mid_len hk]; exact hlt), List.getD_eq_getElem?_getD, List.getElem?_eq_getElem (by rw [mid_len hk]; exact hlt)]; rfl))
        have hbo : o ≠ bC := fun e => hG.off .C (by simp [kv, Value.ownBlock, e])
        have hbW := (hG.lt .C bC (by simp [kv, Value.ownBlock])).1
        go_wp2
        go_roundw
        case rel => exact ⟨k + 1, by omega, by go_num, kO.far hbo _, by rw [← mid_set hlt]; exact hG.setC rfl k (-1), Ext.setCell hEW (by exact hbW) _⟩
        case measure => simp [intOf]; omega
      · have hdec : decide ((k : Int) < 32) = false := by simp; omega
        have hdec' : decide (k < 32) = false := by simp; omega
        have hkn : k = 32 := by omega
        subst hkn
        have k2' := k2.ext hEW
        have c2 := k2'.cell
        have f2 := k2'.froz
        have l2 := k2'.lt
        have hGe : (⟨[], List.replicate 32 false, mid 32⟩ : Gr) = newG := by simp [newG, mid]
        rw [hGe] at hG
        go_wp2
        have kF := ((k2'.set_ 0 (.slice none 0 0)).set_ 1 (.slice B1 32 b1')).set_ 2 (.slice C1 32 c1')
        have cF := kF.cell
        have hfar : ∀ q, kv (.slice none 0 0) (.slice B1 32 b1') (.slice C1 32 c1') [] q ≠ some w.heap.size := fun q hq => by have := (hG.lt q _ hq).1; omega
        have hGF := ((((hG.far (a := ⟨w.heap.size, 0, none⟩) hfar (.slice none 0 0)).far (a := ⟨w.heap.size, 1, none⟩) hfar (.slice B1 32 b1')).far (a := ⟨w.heap.size, 2, none⟩) hfar (.slice C1 32 c1')).offb (o' := w.heap.size) (by omega)).base_ (base' := w.heap.size) (by omega)
        exact bodyPost_ret (v := .agg #[.slice none 0 0, .slice B1 32 b1', .slice C1 32 c1']) (by simp [results, Try.results23, go_sem, cF]) rfl ⟨_, _, _, _, rfl, hGF, Ext.setCell (Ext.setCell (Ext.setCell (hX.trans hEW) (by show w.heap.size ≤ w.heap.size; omega) _) (by show w.heap.size ≤ w.heap.size; omega) _) (by show w.heap.size ≤ w.heap.size; omega) _⟩
set_option maxRecDepth 100000 in
set_option maxHeartbeats 4000000 in
theorem new22_any (w : World) : Calls Try.prog 22 #[] w (RetG w newG) := by
  obtain ⟨cB, hcB⟩ : ∃ cB, cB = (List.replicate 32 (Value.bool false)).toArray := ⟨_, rfl⟩
  obtain ⟨cC, hcC⟩ : ∃ cC, cC = (List.replicate 32 (Value.int .i64 0)).toArray := ⟨_, rfl⟩
  have mB : ∀ W : World, (Instr.makeSlice 24 (.int .i64 32) (.int .i64 32)).run Try.prog W = .ok (.slice (some ⟨W.heap.size, 0, none⟩) 32 32) (W.alloc (.cells cB 4)) := fun W => by rw [hcB]; exact run_mk Try.el24 rfl 32 (by omega) (by omega) W
  have mC : ∀ W : World, (Instr.makeSlice 22 (.int .i64 32) (.int .i64 32)).run Try.prog W = .ok (.slice (some ⟨W.heap.size, 0, none⟩) 32 32) (W.alloc (.cells cC 3)) := fun W => by rw [hcC]; exact run_mk Try.el22 rfl 32 (by omega) (by omega) W
  have zB : cB.size = 32 := by rw [hcB]; rfl
  have zC : cC.size = 32 := by rw [hcC]; rfl
  have HB := Lib.hid hcB
  have HC := Lib.hid hcC
  clear hcB hcC
  go_enter Try.func22, Try.ntmps22
  go_upto_region 1 with fail
  have hX : Ext w (w.alloc (.cells #[.slice none 0 0, .slice none 0 0, .slice none 0 0] 26)) := Ext.alloc (Ext.refl w) _
  have k2 : Blk (w.alloc (.cells #[.slice none 0 0, .slice none 0 0, .slice none 0 0] 26)) w.heap.size 26 #[.slice none 0 0, .slice none 0 0, .slice none 0 0] := Blk.new rfl
  generalize hW : w.alloc (.cells #[.slice none 0 0, .slice none 0 0, .slice none 0 0] 26) = W at hX k2 ⊢
  have hsz : w.heap.size + 1 ≤ W.heap.size := by rw [← hW]; simp
  clear hW
  go_cut [1] (fun t wx => ∃ o vB vC, t = .pointer (some ⟨o, 0, none⟩) ∧ Blk wx o 26 #[.slice none 0 0, vB, vC] ∧ GOwn wx W.heap.size o (.slice none 0 0) vB vC [] ⟨[], List.replicate 32 false, mid 0⟩ ∧ Ext W wx ∧ W.heap.size ≤ o)
  case first =>
    refine wp_region_treeN (W.heap.size) [] (.alt 0 (.alt 1 (.take 2 (.alt 3 (.alt 4 .done .none) .none)) (.alt 3 (.alt 1 (.take 2 (.alt 4 .done .none)) .none) .none)) (.alt 1 (.alt 0 (.take 2 (.alt 3 (.alt 4 .done .none) .none)) (.alt 3 (.alt 0 (.take 2 (.alt 4 .done .none)) .none) .none)) (.alt 3 (.alt 0 (.alt 1 (.take 2 (.alt 4 .done .none)) .none) (.alt 1 (.alt 0 (.take 2 (.alt 4 .done .none)) .none) .none)) .none))) Try.mixed (by kernel_rfl) ?_
    intro hx
    refine wpT_call (List.getElem?_toArray.trans (by rfl)) (by rfl) (fun K hK => ?_) ?_
    · skip
      
      go_simp
      first | (refine hK _ _ ?_ ?_; (focus ((repeat (first | (with_reducible exact Bel.refl _ _ _) | assumption | (with_reducible exact Bel.alloc1 (by first | assumption | omega | (simp; omega))) | (with_reducible refine Bel.drew ?_) | (with_reducible refine Bel.drewL ?_) | (with_reducible refine Bel.setCell ?_ ?_ _; rotate_left; (focus (first | omega | (simp; done) | (simp; omega)))) | (with_reducible refine Bel.alloc ?_ _))); done))) | (refine hK undef _ ?_ ?_; (focus ((repeat (first | (with_reducible exact Bel.refl _ _ _) | assumption | (with_reducible exact Bel.alloc1 (by first | assumption | omega | (simp; omega))) | (with_reducible refine Bel.drew ?_) | (with_reducible refine Bel.drewL ?_) | (with_reducible refine Bel.setCell ?_ ?_ _; rotate_left; (focus (first | omega | (simp; done) | (simp; omega)))) | (with_reducible refine Bel.alloc ?_ _))); done)))
      clear hK
      intro hr
      (try have hB := own_bel (n := 32) hr (by omega) zB); (try have hB := own_bel2 (n := 32) hr (by omega) zB)
      replace hx := hx.trans hr
      clear hr
      try simp only [Act.put, List.setIfInBounds_toArray, List.set_cons_zero, List.set_cons_succ]
      refine wpT_call (List.getElem?_toArray.trans (by rfl)) (by rfl) (fun K hK => ?_) ?_
      · skip
        
        go_simp
        first | (refine hK _ _ ?_ ?_; (focus ((repeat (first | (with_reducible exact Bel.refl _ _ _) | assumption | (with_reducible exact Bel.alloc1 (by first | assumption | omega | (simp; omega))) | (with_reducible refine Bel.drew ?_) | (with_reducible refine Bel.drewL ?_) | (with_reducible refine Bel.setCell ?_ ?_ _; rotate_left; (focus (first | omega | (simp; done) | (simp; omega)))) | (with_reducible refine Bel.alloc ?_ _))); done))) | (refine hK undef _ ?_ ?_; (focus ((repeat (first | (with_reducible exact Bel.refl _ _ _) | assumption | (with_reducible exact Bel.alloc1 (by first | assumption | omega | (simp; omega))) | (with_reducible refine Bel.drew ?_) | (with_reducible refine Bel.drewL ?_) | (with_reducible refine Bel.setCell ?_ ?_ _; rotate_left; (focus (first | omega | (simp; done) | (simp; omega)))) | (with_reducible refine Bel.alloc ?_ _))); done)))
        clear hK
        intro hr
        (try have hC := own_bel (n := 32) hr (by omega) zC); (try have hC := own_bel2 (n := 32) hr (by omega) zC)
        replace hx := hx.trans hr
        clear hr
        try simp only [Act.put, List.setIfInBounds_toArray, List.set_cons_zero, List.set_cons_succ]
        first
          | (refine wpT_takeN hx (by simp) (v := ?_) (List.getElem?_toArray.trans (by rfl)) (by rfl) (fun _ hc => ?_) ?_
             rotate_left
             focus (go_simp; (try go_ints); exact rfl)
             simp only [Act.put, List.setIfInBounds_toArray, List.set_cons_zero, List.set_cons_succ])
          | (refine wpT_skip (List.getElem?_toArray.trans (by rfl)) (by rfl) ?_; simp only [Act.put, List.setIfInBounds_toArray, List.set_cons_zero, List.set_cons_succ])
        refine wpT_call (List.getElem?_toArray.trans (by rfl)) (by rfl) (fun K hK => ?_) ?_
        · skip
          go_simp
          first | (refine hK _ _ ?_ ?_; (focus ((repeat (first | (with_reducible exact Bel.refl _ _ _) | assumption | (with_reducible exact Bel.alloc1 (by first | assumption | omega | (simp; omega))) | (with_reducible refine Bel.drew ?_) | (with_reducible refine Bel.drewL ?_) | (with_reducible refine Bel.setCell ?_ ?_ _; rotate_left; (focus (first | omega | (simp; done) | (simp; omega)))) | (with_reducible refine Bel.alloc ?_ _))); done))) | (refine hK undef _ ?_ ?_; (focus ((repeat (first | (with_reducible exact Bel.refl _ _ _) | assumption | (with_reducible exact Bel.alloc1 (by first | assumption | omega | (simp; omega))) | (with_reducible refine Bel.drew ?_) | (with_reducible refine Bel.drewL ?_) | (with_reducible refine Bel.setCell ?_ ?_ _; rotate_left; (focus (first | omega | (simp; done) | (simp; omega)))) | (with_reducible refine Bel.alloc ?_ _))); done)))
          clear hK
          intro hr
          replace hx := hx.trans hr
          clear hr
          try simp only [Act.put, List.setIfInBounds_toArray, List.set_cons_zero, List.set_cons_succ]
          refine wpT_store (List.getElem?_toArray.trans (by rfl)) rfl (by rfl) (fun K hK => ?_) ?_
          · skip
            
            go_simp
            refine hK _ ?_ ?_
            focus (exact (by repeat (first | exact Bel.refl _ _ _ | exact Bel.alloc1 (by first | assumption | omega | (simp; done) | (simp; omega)) | refine Bel.drew ?_ | refine Bel.drewL ?_ | refine Bel.both ?_ (by first | omega | (simp; done) | (simp; omega)) | (refine Bel.setCell ?_ ?_ _; rotate_left; (focus (first | omega | (simp; done) | (simp; omega)))))); done)
            clear hK
            intro hr
            replace hx := hx.trans hr
            clear hr
            try simp only [Act.put, List.setIfInBounds_toArray, List.set_cons_zero, List.set_cons_succ]
            refine wpT_done ?_
            go_wp2
            go_meet
            have hB' := own_b hB HB.out
            have hC' := own_c hC HC.out
            clear hB hC
            refine ⟨_, _, _, rfl, ?_, fin_copy (us := List.replicate 32 false) (rs := mid 0) hB' hC' (by (repeat (first | (with_reducible exact But.refl _ _) | assumption | (with_reducible refine But.drew ?_) | (with_reducible refine But.drewL ?_) | (with_reducible refine But.setCell ?_ ?_ _; rotate_left; (focus (simp; done))) | (with_reducible refine But.setCellL ?_ ?_; rotate_left; (focus (simp; done))) | (with_reducible refine But.alloc2 ?_ ?_; rotate_left; (focus (simp [World.setCell]; done))) | (with_reducible refine But.allocL ?_ ?_ ?_; rotate_left; (focus (simp; done)); (focus (simp; done))) | (with_reducible refine But.alloc ?_ _)))) (by (repeat (first | (with_reducible exact But.refl _ _) | assumption | (with_reducible refine But.drew ?_) | (with_reducible refine But.drewL ?_) | (with_reducible refine But.setCell ?_ ?_ _; rotate_left; (focus (simp; done))) | (with_reducible refine But.setCellL ?_ ?_; rotate_left; (focus (simp; done))) | (with_reducible refine But.alloc2 ?_ ?_; rotate_left; (focus (simp [World.setCell]; done))) | (with_reducible refine But.allocL ?_ ?_ ?_; rotate_left; (focus (simp; done)); (focus (simp; done))) | (with_reducible refine But.alloc ?_ _)))) (by (first | omega | (simp; done) | (simp; omega))) (by (first | omega | (simp; done) | (simp; omega))) (by (first | omega | (simp; done) | (simp; omega))) (by (first | omega | (simp; done) | (simp; omega))), ext_bel hx, by (first | omega | (simp; done) | (simp; omega))⟩
            first
              | ((repeat (first | assumption | (with_reducible refine Blk.new ?_; (focus (simp; done))) | (with_reducible exact Blk.new rfl) | (with_reducible refine Blk.drew ?_) | (with_reducible refine Blk.alloc ?_ _) | refine Blk.ext ?_ (by assumption))); done)
              | (simp only [alloc_sz]; (repeat (first | assumption | (with_reducible refine Blk.new ?_; (focus (simp; done))) | (with_reducible exact Blk.new rfl) | (with_reducible refine Blk.drew ?_) | (with_reducible refine Blk.alloc ?_ _) | refine Blk.ext ?_ (by assumption))); done)
          exact wpT_none
        exact wpT_none
      refine wpT_call (List.getElem?_toArray.trans (by rfl)) (by rfl) (fun K hK => ?_) ?_
      · skip
        go_simp
        first | (refine hK _ _ ?_ ?_; (focus ((repeat (first | (with_reducible exact Bel.refl _ _ _) | assumption | (with_reducible exact Bel.alloc1 (by first | assumption | omega | (simp; omega))) | (with_reducible refine Bel.drew ?_) | (with_reducible refine Bel.drewL ?_) | (with_reducible refine Bel.setCell ?_ ?_ _; rotate_left; (focus (first | omega | (simp; done) | (simp; omega)))) | (with_reducible refine Bel.alloc ?_ _))); done))) | (refine hK undef _ ?_ ?_; (focus ((repeat (first | (with_reducible exact Bel.refl _ _ _) | assumption | (with_reducible exact Bel.alloc1 (by first | assumption | omega | (simp; omega))) | (with_reducible refine Bel.drew ?_) | (with_reducible refine Bel.drewL ?_) | (with_reducible refine Bel.setCell ?_ ?_ _; rotate_left; (focus (first | omega | (simp; done) | (simp; omega)))) | (with_reducible refine Bel.alloc ?_ _))); done)))
        clear hK
        intro hr
        replace hx := hx.trans hr
        clear hr
        try simp only [Act.put, List.setIfInBounds_toArray, List.set_cons_zero, List.set_cons_succ]
        refine wpT_call (List.getElem?_toArray.trans (by rfl)) (by rfl) (fun K hK => ?_) ?_
        · skip
          
          go_simp
          first | (refine hK _ _ ?_ ?_; (focus ((repeat (first | (with_reducible exact Bel.refl _ _ _) | assumption | (with_reducible exact Bel.alloc1 (by first | assumption | omega | (simp; omega))) | (with_reducible refine Bel.drew ?_) | (with_reducible refine Bel.drewL ?_) | (with_reducible refine Bel.setCell ?_ ?_ _; rotate_left; (focus (first | omega | (simp; done) | (simp; omega)))) | (with_reducible refine Bel.alloc ?_ _))); done))) | (refine hK undef _ ?_ ?_; (focus ((repeat (first | (with_reducible exact Bel.refl _ _ _) | assumption | (with_reducible exact Bel.alloc1 (by first | assumption | omega | (simp; omega))) | (with_reducible refine Bel.drew ?_) | (with_reducible refine Bel.drewL ?_) | (with_reducible refine Bel.setCell ?_ ?_ _; rotate_left; (focus (first | omega | (simp; done) | (simp; omega)))) | (with_reducible refine Bel.alloc ?_ _))); done)))
          clear hK
          intro hr
          (try have hC := own_bel (n := 32) hr (by omega) zC); (try have hC := own_bel2 (n := 32) hr (by omega) zC)
          replace hx := hx.trans hr
          clear hr
          try simp only [Act.put, List.setIfInBounds_toArray, List.set_cons_zero, List.set_cons_succ]
          first
            | (refine wpT_takeN hx (by simp) (v := ?_) (List.getElem?_toArray.trans (by rfl)) (by rfl) (fun _ hc => ?_) ?_
               rotate_left
               focus (go_simp; (try go_ints); exact rfl)
               simp only [Act.put, List.setIfInBounds_toArray, List.set_cons_zero, List.set_cons_succ])
            | (refine wpT_skip (List.getElem?_toArray.trans (by rfl)) (by rfl) ?_; simp only [Act.put, List.setIfInBounds_toArray, List.set_cons_zero, List.set_cons_succ])
          refine wpT_store (List.getElem?_toArray.trans (by rfl)) rfl (by rfl) (fun K hK => ?_) ?_
          · skip
            
            go_simp
            refine hK _ ?_ ?_
            focus (exact (by repeat (first | exact Bel.refl _ _ _ | exact Bel.alloc1 (by first | assumption | omega | (simp; done) | (simp; omega)) | refine Bel.drew ?_ | refine Bel.drewL ?_ | refine Bel.both ?_ (by first | omega | (simp; done) | (simp; omega)) | (refine Bel.setCell ?_ ?_ _; rotate_left; (focus (first | omega | (simp; done) | (simp; omega)))))); done)
            clear hK
            intro hr
            replace hx := hx.trans hr
            clear hr
            try simp only [Act.put, List.setIfInBounds_toArray, List.set_cons_zero, List.set_cons_succ]
            refine wpT_done ?_
            go_wp2
            go_meet
            have hB' := own_b hB HB.out
            have hC' := own_c hC HC.out
            clear hB hC
            refine ⟨_, _, _, rfl, ?_, fin_copy (us := List.replicate 32 false) (rs := mid 0) hB' hC' (by (repeat (first | (with_reducible exact But.refl _ _) | assumption | (with_reducible refine But.drew ?_) | (with_reducible refine But.drewL ?_) | (with_reducible refine But.setCell ?_ ?_ _; rotate_left; (focus (simp; done))) | (with_reducible refine But.setCellL ?_ ?_; rotate_left; (focus (simp; done))) | (with_reducible refine But.alloc2 ?_ ?_; rotate_left; (focus (simp [World.setCell]; done))) | (with_reducible refine But.allocL ?_ ?_ ?_; rotate_left; (focus (simp; done)); (focus (simp; done))) | (with_reducible refine But.alloc ?_ _)))) (by (repeat (first | (with_reducible exact But.refl _ _) | assumption | (with_reducible refine But.drew ?_) | (with_reducible refine But.drewL ?_) | (with_reducible refine But.setCell ?_ ?_ _; rotate_left; (focus (simp; done))) | (with_reducible refine But.setCellL ?_ ?_; rotate_left; (focus (simp; done))) | (with_reducible refine But.alloc2 ?_ ?_; rotate_left; (focus (simp [World.setCell]; done))) | (with_reducible refine But.allocL ?_ ?_ ?_; rotate_left; (focus (simp; done)); (focus (simp; done))) | (with_reducible refine But.alloc ?_ _)))) (by (first | omega | (simp; done) | (simp; omega))) (by (first | omega | (simp; done) | (simp; omega))) (by (first | omega | (simp; done) | (simp; omega))) (by (first | omega | (simp; done) | (simp; omega))), ext_bel hx, by (first | omega | (simp; done) | (simp; omega))⟩
            first
              | ((repeat (first | assumption | (with_reducible refine Blk.new ?_; (focus (simp; done))) | (with_reducible exact Blk.new rfl) | (with_reducible refine Blk.drew ?_) | (with_reducible refine Blk.alloc ?_ _) | refine Blk.ext ?_ (by assumption))); done)
              | (simp only [alloc_sz]; (repeat (first | assumption | (with_reducible refine Blk.new ?_; (focus (simp; done))) | (with_reducible exact Blk.new rfl) | (with_reducible refine Blk.drew ?_) | (with_reducible refine Blk.alloc ?_ _) | refine Blk.ext ?_ (by assumption))); done)
          exact wpT_none
        exact wpT_none
      exact wpT_none
    refine wpT_call (List.getElem?_toArray.trans (by rfl)) (by rfl) (fun K hK => ?_) ?_
    · skip
      
      go_simp
      first | (refine hK _ _ ?_ ?_; (focus ((repeat (first | (with_reducible exact Bel.refl _ _ _) | assumption | (with_reducible exact Bel.alloc1 (by first | assumption | omega | (simp; omega))) | (with_reducible refine Bel.drew ?_) | (with_reducible refine Bel.drewL ?_) | (with_reducible refine Bel.setCell ?_ ?_ _; rotate_left; (focus (first | omega | (simp; done) | (simp; omega)))) | (with_reducible refine Bel.alloc ?_ _))); done))) | (refine hK undef _ ?_ ?_; (focus ((repeat (first | (with_reducible exact Bel.refl _ _ _) | assumption | (with_reducible exact Bel.alloc1 (by first | assumption | omega | (simp; omega))) | (with_reducible refine Bel.drew ?_) | (with_reducible refine Bel.drewL ?_) | (with_reducible refine Bel.setCell ?_ ?_ _; rotate_left; (focus (first | omega | (simp; done) | (simp; omega)))) | (with_reducible refine Bel.alloc ?_ _))); done)))
      clear hK
      intro hr
      (try have hC := own_bel (n := 32) hr (by omega) zC); (try have hC := own_bel2 (n := 32) hr (by omega) zC)
      replace hx := hx.trans hr
      clear hr
      try simp only [Act.put, List.setIfInBounds_toArray, List.set_cons_zero, List.set_cons_succ]
      refine wpT_call (List.getElem?_toArray.trans (by rfl)) (by rfl) (fun K hK => ?_) ?_
      · skip
        
        go_simp
        first | (refine hK _ _ ?_ ?_; (focus ((repeat (first | (with_reducible exact Bel.refl _ _ _) | assumption | (with_reducible exact Bel.alloc1 (by first | assumption | omega | (simp; omega))) | (with_reducible refine Bel.drew ?_) | (with_reducible refine Bel.drewL ?_) | (with_reducible refine Bel.setCell ?_ ?_ _; rotate_left; (focus (first | omega | (simp; done) | (simp; omega)))) | (with_reducible refine Bel.alloc ?_ _))); done))) | (refine hK undef _ ?_ ?_; (focus ((repeat (first | (with_reducible exact Bel.refl _ _ _) | assumption | (with_reducible exact Bel.alloc1 (by first | assumption | omega | (simp; omega))) | (with_reducible refine Bel.drew ?_) | (with_reducible refine Bel.drewL ?_) | (with_reducible refine Bel.setCell ?_ ?_ _; rotate_left; (focus (first | omega | (simp; done) | (simp; omega)))) | (with_reducible refine Bel.alloc ?_ _))); done)))
        clear hK
        intro hr
        (try have hB := own_bel (n := 32) hr (by omega) zB); (try have hB := own_bel2 (n := 32) hr (by omega) zB)
        replace hx := hx.trans hr
        clear hr
        try simp only [Act.put, List.setIfInBounds_toArray, List.set_cons_zero, List.set_cons_succ]
        first
          | (refine wpT_takeN hx (by simp) (v := ?_) (List.getElem?_toArray.trans (by rfl)) (by rfl) (fun _ hc => ?_) ?_
             rotate_left
             focus (go_simp; (try go_ints); exact rfl)
             simp only [Act.put, List.setIfInBounds_toArray, List.set_cons_zero, List.set_cons_succ])
          | (refine wpT_skip (List.getElem?_toArray.trans (by rfl)) (by rfl) ?_; simp only [Act.put, List.setIfInBounds_toArray, List.set_cons_zero, List.set_cons_succ])
        refine wpT_call (List.getElem?_toArray.trans (by rfl)) (by rfl) (fun K hK => ?_) ?_
        · skip
          go_simp
          first | (refine hK _ _ ?_ ?_; (focus ((repeat (first | (with_reducible exact Bel.refl _ _ _) | assumption | (with_reducible exact Bel.alloc1 (by first | assumption | omega | (simp; omega))) | (with_reducible refine Bel.drew ?_) | (with_reducible refine Bel.drewL ?_) | (with_reducible refine Bel.setCell ?_ ?_ _; rotate_left; (focus (first | omega | (simp; done) | (simp; omega)))) | (with_reducible refine Bel.alloc ?_ _))); done))) | (refine hK undef _ ?_ ?_; (focus ((repeat (first | (with_reducible exact Bel.refl _ _ _) | assumption | (with_reducible exact Bel.alloc1 (by first | assumption | omega | (simp; omega))) | (with_reducible refine Bel.drew ?_) | (with_reducible refine Bel.drewL ?_) | (with_reducible refine Bel.setCell ?_ ?_ _; rotate_left; (focus (first | omega | (simp; done) | (simp; omega)))) | (with_reducible refine Bel.alloc ?_ _))); done)))
          clear hK
          intro hr
          replace hx := hx.trans hr
          clear hr
          try simp only [Act.put, List.setIfInBounds_toArray, List.set_cons_zero, List.set_cons_succ]
          refine wpT_store (List.getElem?_toArray.trans (by rfl)) rfl (by rfl) (fun K hK => ?_) ?_
          · skip
            
            go_simp
            refine hK _ ?_ ?_
            focus (exact (by repeat (first | exact Bel.refl _ _ _ | exact Bel.alloc1 (by first | assumption | omega | (simp; done) | (simp; omega)) | refine Bel.drew ?_ | refine Bel.drewL ?_ | refine Bel.both ?_ (by first | omega | (simp; done) | (simp; omega)) | (refine Bel.setCell ?_ ?_ _; rotate_left; (focus (first | omega | (simp; done) | (simp; omega)))))); done)
            clear hK
            intro hr
            replace hx := hx.trans hr
            clear hr
            try simp only [Act.put, List.setIfInBounds_toArray, List.set_cons_zero, List.set_cons_succ]
            refine wpT_done ?_
            go_wp2
            go_meet
            have hB' := own_b hB HB.out
            have hC' := own_c hC HC.out
            clear hB hC
            refine ⟨_, _, _, rfl, ?_, fin_copy (us := List.replicate 32 false) (rs := mid 0) hB' hC' (by (repeat (first | (with_reducible exact But.refl _ _) | assumption | (with_reducible refine But.drew ?_) | (with_reducible refine But.drewL ?_) | (with_reducible refine But.setCell ?_ ?_ _; rotate_left; (focus (simp; done))) | (with_reducible refine But.setCellL ?_ ?_; rotate_left; (focus (simp; done))) | (with_reducible refine But.alloc2 ?_ ?_; rotate_left; (focus (simp [World.setCell]; done))) | (with_reducible refine But.allocL ?_ ?_ ?_; rotate_left; (focus (simp; done)); (focus (simp; done))) | (with_reducible refine But.alloc ?_ _)))) (by (repeat (first | (with_reducible exact But.refl _ _) | assumption | (with_reducible refine But.drew ?_) | (with_reducible refine But.drewL ?_) | (with_reducible refine But.setCell ?_ ?_ _; rotate_left; (focus (simp; done))) | (with_reducible refine But.setCellL ?_ ?_; rotate_left; (focus (simp; done))) | (with_reducible refine But.alloc2 ?_ ?_; rotate_left; (focus (simp [World.setCell]; done))) | (with_reducible refine But.allocL ?_ ?_ ?_; rotate_left; (focus (simp; done)); (focus (simp; done))) | (with_reducible refine But.alloc ?_ _)))) (by (first | omega | (simp; done) | (simp; omega))) (by (first | omega | (simp; done) | (simp; omega))) (by (first | omega | (simp; done) | (simp; omega))) (by (first | omega | (simp; done) | (simp; omega))), ext_bel hx, by (first | omega | (simp; done) | (simp; omega))⟩
            first
              | ((repeat (first | assumption | (with_reducible refine Blk.new ?_; (focus (simp; done))) | (with_reducible exact Blk.new rfl) | (with_reducible refine Blk.drew ?_) | (with_reducible refine Blk.alloc ?_ _) | refine Blk.ext ?_ (by assumption))); done)
              | (simp only [alloc_sz]; (repeat (first | assumption | (with_reducible refine Blk.new ?_; (focus (simp; done))) | (with_reducible exact Blk.new rfl) | (with_reducible refine Blk.drew ?_) | (with_reducible refine Blk.alloc ?_ _) | refine Blk.ext ?_ (by assumption))); done)
          exact wpT_none
        exact wpT_none
      refine wpT_call (List.getElem?_toArray.trans (by rfl)) (by rfl) (fun K hK => ?_) ?_
      · skip
        go_simp
        first | (refine hK _ _ ?_ ?_; (focus ((repeat (first | (with_reducible exact Bel.refl _ _ _) | assumption | (with_reducible exact Bel.alloc1 (by first | assumption | omega | (simp; omega))) | (with_reducible refine Bel.drew ?_) | (with_reducible refine Bel.drewL ?_) | (with_reducible refine Bel.setCell ?_ ?_ _; rotate_left; (focus (first | omega | (simp; done) | (simp; omega)))) | (with_reducible refine Bel.alloc ?_ _))); done))) | (refine hK undef _ ?_ ?_; (focus ((repeat (first | (with_reducible exact Bel.refl _ _ _) | assumption | (with_reducible exact Bel.alloc1 (by first | assumption | omega | (simp; omega))) | (with_reducible refine Bel.drew ?_) | (with_reducible refine Bel.drewL ?_) | (with_reducible refine Bel.setCell ?_ ?_ _; rotate_left; (focus (first | omega | (simp; done) | (simp; omega)))) | (with_reducible refine Bel.alloc ?_ _))); done)))
        clear hK
        intro hr
        replace hx := hx.trans hr
        clear hr
        try simp only [Act.put, List.setIfInBounds_toArray, List.set_cons_zero, List.set_cons_succ]
        refine wpT_call (List.getElem?_toArray.trans (by rfl)) (by rfl) (fun K hK => ?_) ?_
        · skip
          
          go_simp
          first | (refine hK _ _ ?_ ?_; (focus ((repeat (first | (with_reducible exact Bel.refl _ _ _) | assumption | (with_reducible exact Bel.alloc1 (by first | assumption | omega | (simp; omega))) | (with_reducible refine Bel.drew ?_) | (with_reducible refine Bel.drewL ?_) | (with_reducible refine Bel.setCell ?_ ?_ _; rotate_left; (focus (first | omega | (simp; done) | (simp; omega)))) | (with_reducible refine Bel.alloc ?_ _))); done))) | (refine hK undef _ ?_ ?_; (focus ((repeat (first | (with_reducible exact Bel.refl _ _ _) | assumption | (with_reducible exact Bel.alloc1 (by first | assumption | omega | (simp; omega))) | (with_reducible refine Bel.drew ?_) | (with_reducible refine Bel.drewL ?_) | (with_reducible refine Bel.setCell ?_ ?_ _; rotate_left; (focus (first | omega | (simp; done) | (simp; omega)))) | (with_reducible refine Bel.alloc ?_ _))); done)))
          clear hK
          intro hr
          (try have hB := own_bel (n := 32) hr (by omega) zB); (try have hB := own_bel2 (n := 32) hr (by omega) zB)
          replace hx := hx.trans hr
          clear hr
          try simp only [Act.put, List.setIfInBounds_toArray, List.set_cons_zero, List.set_cons_succ]
          first
            | (refine wpT_takeN hx (by simp) (v := ?_) (List.getElem?_toArray.trans (by rfl)) (by rfl) (fun _ hc => ?_) ?_
               rotate_left
               focus (go_simp; (try go_ints); exact rfl)
               simp only [Act.put, List.setIfInBounds_toArray, List.set_cons_zero, List.set_cons_succ])
            | (refine wpT_skip (List.getElem?_toArray.trans (by rfl)) (by rfl) ?_; simp only [Act.put, List.setIfInBounds_toArray, List.set_cons_zero, List.set_cons_succ])
          refine wpT_store (List.getElem?_toArray.trans (by rfl)) rfl (by rfl) (fun K hK => ?_) ?_
          · skip
            
            go_simp
            refine hK _ ?_ ?_
            focus (exact (by repeat (first | exact Bel.refl _ _ _ | exact Bel.alloc1 (by first | assumption | omega | (simp; done) | (simp; omega)) | refine Bel.drew ?_ | refine Bel.drewL ?_ | refine Bel.both ?_ (by first | omega | (simp; done) | (simp; omega)) | (refine Bel.setCell ?_ ?_ _; rotate_left; (focus (first | omega | (simp; done) | (simp; omega)))))); done)
            clear hK
            intro hr
            replace hx := hx.trans hr
            clear hr
            try simp only [Act.put, List.setIfInBounds_toArray, List.set_cons_zero, List.set_cons_succ]
            refine wpT_done ?_
            go_wp2
            go_meet
            have hB' := own_b hB HB.out
            have hC' := own_c hC HC.out
            clear hB hC
            refine ⟨_, _, _, rfl, ?_, fin_copy (us := List.replicate 32 false) (rs := mid 0) hB' hC' (by (repeat (first | (with_reducible exact But.refl _ _) | assumption | (with_reducible refine But.drew ?_) | (with_reducible refine But.drewL ?_) | (with_reducible refine But.setCell ?_ ?_ _; rotate_left; (focus (simp; done))) | (with_reducible refine But.setCellL ?_ ?_; rotate_left; (focus (simp; done))) | (with_reducible refine But.alloc2 ?_ ?_; rotate_left; (focus (simp [World.setCell]; done))) | (with_reducible refine But.allocL ?_ ?_ ?_; rotate_left; (focus (simp; done)); (focus (simp; done))) | (with_reducible refine But.alloc ?_ _)))) (by (repeat (first | (with_reducible exact But.refl _ _) | assumption | (with_reducible refine But.drew ?_) | (with_reducible refine But.drewL ?_) | (with_reducible refine But.setCell ?_ ?_ _; rotate_left; (focus (simp; done))) | (with_reducible refine But.setCellL ?_ ?_; rotate_left; (focus (simp; done))) | (with_reducible refine But.alloc2 ?_ ?_; rotate_left; (focus (simp [World.setCell]; done))) | (with_reducible refine But.allocL ?_ ?_ ?_; rotate_left; (focus (simp; done)); (focus (simp; done))) | (with_reducible refine But.alloc ?_ _)))) (by (first | omega | (simp; done) | (simp; omega))) (by (first | omega | (simp; done) | (simp; omega))) (by (first | omega | (simp; done) | (simp; omega))) (by (first | omega | (simp; done) | (simp; omega))), ext_bel hx, by (first | omega | (simp; done) | (simp; omega))⟩
            first
              | ((repeat (first | assumption | (with_reducible refine Blk.new ?_; (focus (simp; done))) | (with_reducible exact Blk.new rfl) | (with_reducible refine Blk.drew ?_) | (with_reducible refine Blk.alloc ?_ _) | refine Blk.ext ?_ (by assumption))); done)
              | (simp only [alloc_sz]; (repeat (first | assumption | (with_reducible refine Blk.new ?_; (focus (simp; done))) | (with_reducible exact Blk.new rfl) | (with_reducible refine Blk.drew ?_) | (with_reducible refine Blk.alloc ?_ _) | refine Blk.ext ?_ (by assumption))); done)
          exact wpT_none
        exact wpT_none
      exact wpT_none
    refine wpT_call (List.getElem?_toArray.trans (by rfl)) (by rfl) (fun K hK => ?_) ?_
    · skip
      go_simp
      first | (refine hK _ _ ?_ ?_; (focus ((repeat (first | (with_reducible exact Bel.refl _ _ _) | assumption | (with_reducible exact Bel.alloc1 (by first | assumption | omega | (simp; omega))) | (with_reducible refine Bel.drew ?_) | (with_reducible refine Bel.drewL ?_) | (with_reducible refine Bel.setCell ?_ ?_ _; rotate_left; (focus (first | omega | (simp; done) | (simp; omega)))) | (with_reducible refine Bel.alloc ?_ _))); done))) | (refine hK undef _ ?_ ?_; (focus ((repeat (first | (with_reducible exact Bel.refl _ _ _) | assumption | (with_reducible exact Bel.alloc1 (by first | assumption | omega | (simp; omega))) | (with_reducible refine Bel.drew ?_) | (with_reducible refine Bel.drewL ?_) | (with_reducible refine Bel.setCell ?_ ?_ _; rotate_left; (focus (first | omega | (simp; done) | (simp; omega)))) | (with_reducible refine Bel.alloc ?_ _))); done)))
      clear hK
      intro hr
      replace hx := hx.trans hr
      clear hr
      try simp only [Act.put, List.setIfInBounds_toArray, List.set_cons_zero, List.set_cons_succ]
      refine wpT_call (List.getElem?_toArray.trans (by rfl)) (by rfl) (fun K hK => ?_) ?_
      · skip
        
        go_simp
        first | (refine hK _ _ ?_ ?_; (focus ((repeat (first | (with_reducible exact Bel.refl _ _ _) | assumption | (with_reducible exact Bel.alloc1 (by first | assumption | omega | (simp; omega))) | (with_reducible refine Bel.drew ?_) | (with_reducible refine Bel.drewL ?_) | (with_reducible refine Bel.setCell ?_ ?_ _; rotate_left; (focus (first | omega | (simp; done) | (simp; omega)))) | (with_reducible refine Bel.alloc ?_ _))); done))) | (refine hK undef _ ?_ ?_; (focus ((repeat (first | (with_reducible exact Bel.refl _ _ _) | assumption | (with_reducible exact Bel.alloc1 (by first | assumption | omega | (simp; omega))) | (with_reducible refine Bel.drew ?_) | (with_reducible refine Bel.drewL ?_) | (with_reducible refine Bel.setCell ?_ ?_ _; rotate_left; (focus (first | omega | (simp; done) | (simp; omega)))) | (with_reducible refine Bel.alloc ?_ _))); done)))
        clear hK
        intro hr
        (try have hB := own_bel (n := 32) hr (by omega) zB); (try have hB := own_bel2 (n := 32) hr (by omega) zB)
        replace hx := hx.trans hr
        clear hr
        try simp only [Act.put, List.setIfInBounds_toArray, List.set_cons_zero, List.set_cons_succ]
        refine wpT_call (List.getElem?_toArray.trans (by rfl)) (by rfl) (fun K hK => ?_) ?_
        · skip
          
          go_simp
          first | (refine hK _ _ ?_ ?_; (focus ((repeat (first | (with_reducible exact Bel.refl _ _ _) | assumption | (with_reducible exact Bel.alloc1 (by first | assumption | omega | (simp; omega))) | (with_reducible refine Bel.drew ?_) | (with_reducible refine Bel.drewL ?_) | (with_reducible refine Bel.setCell ?_ ?_ _; rotate_left; (focus (first | omega | (simp; done) | (simp; omega)))) | (with_reducible refine Bel.alloc ?_ _))); done))) | (refine hK undef _ ?_ ?_; (focus ((repeat (first | (with_reducible exact Bel.refl _ _ _) | assumption | (with_reducible exact Bel.alloc1 (by first | assumption | omega | (simp; omega))) | (with_reducible refine Bel.drew ?_) | (with_reducible refine Bel.drewL ?_) | (with_reducible refine Bel.setCell ?_ ?_ _; rotate_left; (focus (first | omega | (simp; done) | (simp; omega)))) | (with_reducible refine Bel.alloc ?_ _))); done)))
          clear hK
          intro hr
          (try have hC := own_bel (n := 32) hr (by omega) zC); (try have hC := own_bel2 (n := 32) hr (by omega) zC)
          replace hx := hx.trans hr
          clear hr
          try simp only [Act.put, List.setIfInBounds_toArray, List.set_cons_zero, List.set_cons_succ]
          first
            | (refine wpT_takeN hx (by simp) (v := ?_) (List.getElem?_toArray.trans (by rfl)) (by rfl) (fun _ hc => ?_) ?_
               rotate_left
               focus (go_simp; (try go_ints); exact rfl)
               simp only [Act.put, List.setIfInBounds_toArray, List.set_cons_zero, List.set_cons_succ])
            | (refine wpT_skip (List.getElem?_toArray.trans (by rfl)) (by rfl) ?_; simp only [Act.put, List.setIfInBounds_toArray, List.set_cons_zero, List.set_cons_succ])
          refine wpT_store (List.getElem?_toArray.trans (by rfl)) rfl (by rfl) (fun K hK => ?_) ?_
          · skip
            
            go_simp
            refine hK _ ?_ ?_
            focus (exact (by repeat (first | exact Bel.refl _ _ _ | exact Bel.alloc1 (by first | assumption | omega | (simp; done) | (simp; omega)) | refine Bel.drew ?_ | refine Bel.drewL ?_ | refine Bel.both ?_ (by first | omega | (simp; done) | (simp; omega)) | (refine Bel.setCell ?_ ?_ _; rotate_left; (focus (first | omega | (simp; done) | (simp; omega)))))); done)
            clear hK
            intro hr
            replace hx := hx.trans hr
            clear hr
            try simp only [Act.put, List.setIfInBounds_toArray, List.set_cons_zero, List.set_cons_succ]
            refine wpT_done ?_
            go_wp2
            go_meet
            have hB' := own_b hB HB.out
            have hC' := own_c hC HC.out
            clear hB hC
            refine ⟨_, _, _, rfl, ?_, fin_copy (us := List.replicate 32 false) (rs := mid 0) hB' hC' (by (repeat (first | (with_reducible exact But.refl _ _) | assumption | (with_reducible refine But.drew ?_) | (with_reducible refine But.drewL ?_) | (with_reducible refine But.setCell ?_ ?_ _; rotate_left; (focus (simp; done))) | (with_reducible refine But.setCellL ?_ ?_; rotate_left; (focus (simp; done))) | (with_reducible refine But.alloc2 ?_ ?_; rotate_left; (focus (simp [World.setCell]; done))) | (with_reducible refine But.allocL ?_ ?_ ?_; rotate_left; (focus (simp; done)); (focus (simp; done))) | (with_reducible refine But.alloc ?_ _)))) (by (repeat (first | (with_reducible exact But.refl _ _) | assumption | (with_reducible refine But.drew ?_) | (with_reducible refine But.drewL ?_) | (with_reducible refine But.setCell ?_ ?_ _; rotate_left; (focus (simp; done))) | (with_reducible refine But.setCellL ?_ ?_; rotate_left; (focus (simp; done))) | (with_reducible refine But.alloc2 ?_ ?_; rotate_left; (focus (simp [World.setCell]; done))) | (with_reducible refine But.allocL ?_ ?_ ?_; rotate_left; (focus (simp; done)); (focus (simp; done))) | (with_reducible refine But.alloc ?_ _)))) (by (first | omega | (simp; done) | (simp; omega))) (by (first | omega | (simp; done) | (simp; omega))) (by (first | omega | (simp; done) | (simp; omega))) (by (first | omega | (simp; done) | (simp; omega))), ext_bel hx, by (first | omega | (simp; done) | (simp; omega))⟩
            first
              | ((repeat (first | assumption | (with_reducible refine Blk.new ?_; (focus (simp; done))) | (with_reducible exact Blk.new rfl) | (with_reducible refine Blk.drew ?_) | (with_reducible refine Blk.alloc ?_ _) | refine Blk.ext ?_ (by assumption))); done)
              | (simp only [alloc_sz]; (repeat (first | assumption | (with_reducible refine Blk.new ?_; (focus (simp; done))) | (with_reducible exact Blk.new rfl) | (with_reducible refine Blk.drew ?_) | (with_reducible refine Blk.alloc ?_ _) | refine Blk.ext ?_ (by assumption))); done)
          exact wpT_none
        exact wpT_none
      refine wpT_call (List.getElem?_toArray.trans (by rfl)) (by rfl) (fun K hK => ?_) ?_
      · skip
        
        go_simp
        first | (refine hK _ _ ?_ ?_; (focus ((repeat (first | (with_reducible exact Bel.refl _ _ _) | assumption | (with_reducible exact Bel.alloc1 (by first | assumption | omega | (simp; omega))) | (with_reducible refine Bel.drew ?_) | (with_reducible refine Bel.drewL ?_) | (with_reducible refine Bel.setCell ?_ ?_ _; rotate_left; (focus (first | omega | (simp; done) | (simp; omega)))) | (with_reducible refine Bel.alloc ?_ _))); done))) | (refine hK undef _ ?_ ?_; (focus ((repeat (first | (with_reducible exact Bel.refl _ _ _) | assumption | (with_reducible exact Bel.alloc1 (by first | assumption | omega | (simp; omega))) | (with_reducible refine Bel.drew ?_) | (with_reducible refine Bel.drewL ?_) | (with_reducible refine Bel.setCell ?_ ?_ _; rotate_left; (focus (first | omega | (simp; done) | (simp; omega)))) | (with_reducible refine Bel.alloc ?_ _))); done)))
        clear hK
        intro hr
        (try have hC := own_bel (n := 32) hr (by omega) zC); (try have hC := own_bel2 (n := 32) hr (by omega) zC)
        replace hx := hx.trans hr
        clear hr
        try simp only [Act.put, List.setIfInBounds_toArray, List.set_cons_zero, List.set_cons_succ]
        refine wpT_call (List.getElem?_toArray.trans (by rfl)) (by rfl) (fun K hK => ?_) ?_
        · skip
          
          go_simp
          first | (refine hK _ _ ?_ ?_; (focus ((repeat (first | (with_reducible exact Bel.refl _ _ _) | assumption | (with_reducible exact Bel.alloc1 (by first | assumption | omega | (simp; omega))) | (with_reducible refine Bel.drew ?_) | (with_reducible refine Bel.drewL ?_) | (with_reducible refine Bel.setCell ?_ ?_ _; rotate_left; (focus (first | omega | (simp; done) | (simp; omega)))) | (with_reducible refine Bel.alloc ?_ _))); done))) | (refine hK undef _ ?_ ?_; (focus ((repeat (first | (with_reducible exact Bel.refl _ _ _) | assumption | (with_reducible exact Bel.alloc1 (by first | assumption | omega | (simp; omega))) | (with_reducible refine Bel.drew ?_) | (with_reducible refine Bel.drewL ?_) | (with_reducible refine Bel.setCell ?_ ?_ _; rotate_left; (focus (first | omega | (simp; done) | (simp; omega)))) | (with_reducible refine Bel.alloc ?_ _))); done)))
          clear hK
          intro hr
          (try have hB := own_bel (n := 32) hr (by omega) zB); (try have hB := own_bel2 (n := 32) hr (by omega) zB)
          replace hx := hx.trans hr
          clear hr
          try simp only [Act.put, List.setIfInBounds_toArray, List.set_cons_zero, List.set_cons_succ]
          first
            | (refine wpT_takeN hx (by simp) (v := ?_) (List.getElem?_toArray.trans (by rfl)) (by rfl) (fun _ hc => ?_) ?_
               rotate_left
               focus (go_simp; (try go_ints); exact rfl)
               simp only [Act.put, List.setIfInBounds_toArray, List.set_cons_zero, List.set_cons_succ])
            | (refine wpT_skip (List.getElem?_toArray.trans (by rfl)) (by rfl) ?_; simp only [Act.put, List.setIfInBounds_toArray, List.set_cons_zero, List.set_cons_succ])
          refine wpT_store (List.getElem?_toArray.trans (by rfl)) rfl (by rfl) (fun K hK => ?_) ?_
          · skip
            
            go_simp
            refine hK _ ?_ ?_
            focus (exact (by repeat (first | exact Bel.refl _ _ _ | exact Bel.alloc1 (by first | assumption | omega | (simp; done) | (simp; omega)) | refine Bel.drew ?_ | refine Bel.drewL ?_ | refine Bel.both ?_ (by first | omega | (simp; done) | (simp; omega)) | (refine Bel.setCell ?_ ?_ _; rotate_left; (focus (first | omega | (simp; done) | (simp; omega)))))); done)
            clear hK
            intro hr
            replace hx := hx.trans hr
            clear hr
            try simp only [Act.put, List.setIfInBounds_toArray, List.set_cons_zero, List.set_cons_succ]
            refine wpT_done ?_
            go_wp2
            go_meet
            have hB' := own_b hB HB.out
            have hC' := own_c hC HC.out
            clear hB hC
            refine ⟨_, _, _, rfl, ?_, fin_copy (us := List.replicate 32 false) (rs := mid 0) hB' hC' (by (repeat (first | (with_reducible exact But.refl _ _) | assumption | (with_reducible refine But.drew ?_) | (with_reducible refine But.drewL ?_) | (with_reducible refine But.setCell ?_ ?_ _; rotate_left; (focus (simp; done))) | (with_reducible refine But.setCellL ?_ ?_; rotate_left; (focus (simp; done))) | (with_reducible refine But.alloc2 ?_ ?_; rotate_left; (focus (simp [World.setCell]; done))) | (with_reducible refine But.allocL ?_ ?_ ?_; rotate_left; (focus (simp; done)); (focus (simp; done))) | (with_reducible refine But.alloc ?_ _)))) (by (repeat (first | (with_reducible exact But.refl _ _) | assumption | (with_reducible refine But.drew ?_) | (with_reducible refine But.drewL ?_) | (with_reducible refine But.setCell ?_ ?_ _; rotate_left; (focus (simp; done))) | (with_reducible refine But.setCellL ?_ ?_; rotate_left; (focus (simp; done))) | (with_reducible refine But.alloc2 ?_ ?_; rotate_left; (focus (simp [World.setCell]; done))) | (with_reducible refine But.allocL ?_ ?_ ?_; rotate_left; (focus (simp; done)); (focus (simp; done))) | (with_reducible refine But.alloc ?_ _)))) (by (first | omega | (simp; done) | (simp; omega))) (by (first | omega | (simp; done) | (simp; omega))) (by (first | omega | (simp; done) | (simp; omega))) (by (first | omega | (simp; done) | (simp; omega))), ext_bel hx, by (first | omega | (simp; done) | (simp; omega))⟩
            first
              | ((repeat (first | assumption | (with_reducible refine Blk.new ?_; (focus (simp; done))) | (with_reducible exact Blk.new rfl) | (with_reducible refine Blk.drew ?_) | (with_reducible refine Blk.alloc ?_ _) | refine Blk.ext ?_ (by assumption))); done)
              | (simp only [alloc_sz]; (repeat (first | assumption | (with_reducible refine Blk.new ?_; (focus (simp; done))) | (with_reducible exact Blk.new rfl) | (with_reducible refine Blk.drew ?_) | (with_reducible refine Blk.alloc ?_ _) | refine Blk.ext ?_ (by assumption))); done)
          exact wpT_none
        exact wpT_none
      exact wpT_none
    exact wpT_none
  case rest =>
    obtain ⟨o, vB, vC, rfl, kO, hG, hEW, hoW⟩ := hcut
    obtain ⟨B1, b1', rfl⟩ := own_slice hG.used
    obtain ⟨C1, c1', rfl⟩ := own_slice hG.roots
    simp only [List.length_replicate, mid_len (Nat.zero_le 32)] at kO hG
    have lO := kO.lt
    have cO := kO.cell
    go_wp2_with fail
    go_loopw [9] (fun i wr => ∃ (k : Nat), k ≤ 32 ∧ i = .int .i64 k ∧ Blk wr o 26 #[.slice none 0 0, .slice B1 32 b1', .slice C1 32 c1'] ∧ GOwn wr W.heap.size o (.slice none 0 0) (.slice B1 32 b1') (.slice C1 32 c1') [] ⟨[], List.replicate 32 false, mid k⟩ ∧ Ext W wr) (fun i _ => 32 - (intOf i).toNat)
    case atStart => exact ⟨0, by omega, rfl, kO, hG, hEW⟩
    case round =>
      clear kO hG hEW lO cO
      obtain ⟨k, hk, rfl, kO, hG, hEW⟩ := hrel
      have cO := kO.cell
      have fO := kO.froz
      have lO := kO.lt
      by_cases hlt : k < 32
      · have hdec : decide ((k : Int) < 32) = true := by simp; omega
        have hdec' : decide (k < 32) = true := by simp; omega
        have hkb : (k : Int) < 32 := by omega
        have hrt := hG.roots
        simp only [mid_len hk] at hrt
        obtain ⟨bC, cC', e⟩ := own_at hrt (by omega)
        injection e with e1 e2 e3
        subst e1
        subst e3
        obtain ⟨cCc, fC⟩ := own_cells hrt
        have hCi := cCc k (.int .i64 ((mid k).getD k 0)) (ints_at (by rw [List.getElem?_eq_getElem (by rw [mid_len hk]; exact hlt), List.getD_eq_getElem?_getD, List.getElem?_eq_getElem (by rw [mid_len hk]; exact hlt)]; rfl))
        have hbo : o ≠ bC := fun e => hG.off .C (by simp [kv, Value.ownBlock, e])
        have hbW := (hG.lt .C bC (by simp [kv, Value.ownBlock])).1
        go_wp2
        go_roundw
        case rel => exact ⟨k + 1, by omega, by go_num, kO.far hbo _, by rw [← mid_set hlt]; exact hG.setC rfl k (-1), Ext.setCell hEW (by exact hbW) _⟩
        case measure => simp [intOf]; omega
      · have hdec : decide ((k : Int) < 32) = false := by simp; omega
        have hdec' : decide (k < 32) = false := by simp; omega
        have hkn : k = 32 := by omega
        subst hkn
        have k2' := k2.ext hEW
        have c2 := k2'.cell
        have f2 := k2'.froz
        have l2 := k2'.lt
        have hGe : (⟨[], List.replicate 32 false, mid 32⟩ : Gr) = newG := by simp [newG, mid]
        rw [hGe] at hG
        go_wp2
        have kF := ((k2'.set_ 0 (.slice none 0 0)).set_ 1 (.slice B1 32 b1')).set_ 2 (.slice C1 32 c1')
        have cF := kF.cell
        have hfar : ∀ q, kv (.slice none 0 0) (.slice B1 32 b1') (.slice C1 32 c1') [] q ≠ some w.heap.size := fun q hq => by have := (hG.lt q _ hq).1; omega
        have hGF := ((((hG.far (a := ⟨w.heap.size, 0, none⟩) hfar (.slice none 0 0)).far (a := ⟨w.heap.size, 1, none⟩) hfar (.slice B1 32 b1')).far (a := ⟨w.heap.size, 2, none⟩) hfar (.slice C1 32 c1')).offb (o' := w.heap.size) (by omega)).base_ (base' := w.heap.size) (by omega)
        exact bodyPost_ret (v := .agg #[.slice none 0 0, .slice B1 32 b1', .slice C1 32 c1']) (by simp [results, Try.results22, go_sem, cF]) rfl ⟨_, _, _, _, rfl, hGF, Ext.setCell (Ext.setCell (Ext.setCell (hX.trans hEW) (by show w.heap.size ≤ w.heap.size; omega) _) (by show w.heap.size ≤ w.heap.size; omega) _) (by show w.heap.size ≤ w.heap.size; omega) _⟩
end Go.Proofs.Ytamghjilcfeheaa
