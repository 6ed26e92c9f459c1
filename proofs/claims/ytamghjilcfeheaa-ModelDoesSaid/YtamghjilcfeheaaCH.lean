/- The walk of the model's equal; access as the pure operation. Conditions: the ranges that each theorem states. -/
import Derived.Test.YtamghjilcfeheaaME
namespace Go.Proofs.Ytamghjilcfeheaa
open Go.RowKit Go.Draw

set_option maxRecDepth 100000 in
set_option maxHeartbeats 2000000 in
theorem equal41_any (base M o : Nat) (g : Gr) (a b d : Int) (w : World) (h : GSt base M o w g) (hv : Vld g) :
    Calls Try.prog 41 #[.pointer (some ⟨o, 0, none⟩), .agg #[.int .i64 6, .int .i64 a, .int .i64 b, .int .i64 d]] w (AccR base M o w (doT g 6 a b d)) := by
  by_cases ha : hErr g a false = 0
  · have hma : mNd g a = hNd g a := by unfold mNd; rw [if_pos ha]
    have ea : (hErr g a false != 0) = false := by simpa using ha
    by_cases hb : hErr g b false = 0
    · have hmb : mNd g b = hNd g b := by unfold mNd; rw [if_pos hb]
      have eb : (hErr g b false != 0) = false := by simpa using hb
      by_cases he : hNd g a = hNd g b
      · have e1 : (hNd g a != hNd g b) = false := by simpa using he
        have ht : doT g 6 a b d = (g, 0, 1) := by simp [doT, ha, hb, he]
        rw [ht]
        clear ht he ha hb
        go_enter Try.func41, Try.ntmps41
        go_upto_region 1 with fail
        have hX := Ext.alloc (Ext.refl w) (.cells #[.int .i64 6, .int .i64 a, .int .i64 b, .int .i64 d] 37)
        have k3 : Blk (w.alloc (.cells #[.int .i64 6, .int .i64 a, .int .i64 b, .int .i64 d] 37)) w.heap.size 37 #[.int .i64 6, .int .i64 a, .int .i64 b, .int .i64 d] := Blk.new rfl
        generalize w.alloc (.cells #[.int .i64 6, .int .i64 a, .int .i64 b, .int .i64 d] 37) = W at hX k3 ⊢
        have c3 := k3.cell
        have l3 := k3.lt
        replace h := h.ext hX
        have h' := h
        obtain ⟨vA, vB, vC, ps, kO, hG, _⟩ := h'
        have cO := kO.cell
        have lO := kO.lt
        have hgr := hG.rd
        refine wp_region_ext [(true, 0), (true, 1), (true, 2), (true, 3), (true, 4), (false, 5), (true, 6), (true, 7), (true, 8), (true, 9), (true, 10)] Try.mixed (by kernel_rfl) (by simp only [pick, List.filterMap_cons, List.filterMap_nil, List.getElem?_toArray, List.getElem?_cons_succ, List.getElem?_cons_zero, Option.map_some]; rfl) ?_
        intro hx
        repeat (first
          | (refine wpL_take hx (v := ?_) (by rfl) (fun _ hc => ?_) ?_
             rotate_left
             focus (go_simp; (try go_ints); exact rfl)
             simp only [Act.put, List.setIfInBounds_toArray, List.set_cons_zero, List.set_cons_succ])
          | (refine wpL_skip (by rfl) ?_; simp only [Act.put, List.setIfInBounds_toArray, List.set_cons_zero, List.set_cons_succ])
          | (refine wpL_call (by rfl) (fun K hK => ?_); go_simp; go_at_call 45; refine (node45_any _ g a _ (hgr.ext (by (repeat (first | (with_reducible exact Ext.refl _) | assumption | (with_reducible refine Ext.alloc ?_ _) | (with_reducible refine Ext.drew ?_) | (with_reducible refine Ext.drewL ?_) | refine Ext.trans ?_ (by assumption))))) hv.lu hv.lr).mono ?_; rintro e w1 ⟨rfl, hE⟩; rw [hma]; refine hK _ _ (hE) ?_; clear hK; intro hr; replace hx := hx.trans hr; clear hr; simp only [Act.put, List.setIfInBounds_toArray, List.set_cons_zero, List.set_cons_succ])
          | (refine wpL_call (by rfl) (fun K hK => ?_); go_simp; (first | (refine hK _ _ ?_ ?_; (focus ((repeat (first | (with_reducible exact Ext.refl _) | assumption | (with_reducible refine Ext.alloc ?_ _) | (with_reducible refine Ext.drew ?_) | (with_reducible refine Ext.drewL ?_) | refine Ext.trans ?_ (by assumption))); done))) | (refine hK undef _ ?_ ?_; (focus ((repeat (first | (with_reducible exact Ext.refl _) | assumption | (with_reducible refine Ext.alloc ?_ _) | (with_reducible refine Ext.drew ?_) | (with_reducible refine Ext.drewL ?_) | refine Ext.trans ?_ (by assumption))); done)))); clear hK; intro hr; replace hx := hx.trans hr; clear hr; try simp only [Act.put, List.setIfInBounds_toArray, List.set_cons_zero, List.set_cons_succ]))
        refine wpL_end ?_
        have hW1 : Ext W w1 := (Ext.drew (Ext.refl W)).trans hE
        have c3' := (k3.ext hW1).cell
        have cO' := (kO.ext hW1).cell
        have lO' := (kO.ext hW1).lt
        have l3' := (k3.ext hW1).lt
        have hgr1 := hgr.ext hW1
        obtain ⟨wd, rfl⟩ : ∃ wd, wd = w1 := ⟨_, rfl⟩
        clear hx
        go_upto_region 4 with fail
        refine wp_region_ext [(true, 0), (true, 1), (true, 2), (true, 3), (true, 4), (false, 5), (true, 6), (true, 7), (true, 8), (true, 9), (true, 10)] Try.mixed (by kernel_rfl) (by simp only [pick, List.filterMap_cons, List.filterMap_nil, List.getElem?_toArray, List.getElem?_cons_succ, List.getElem?_cons_zero, Option.map_some]; rfl) ?_
        intro hx
        repeat (first
          | (refine wpL_take hx (v := ?_) (by rfl) (fun _ hc => ?_) ?_
             rotate_left
             focus (go_simp; (try go_ints); exact rfl)
             simp only [Act.put, List.setIfInBounds_toArray, List.set_cons_zero, List.set_cons_succ])
          | (refine wpL_skip (by rfl) ?_; simp only [Act.put, List.setIfInBounds_toArray, List.set_cons_zero, List.set_cons_succ])
          | (refine wpL_call (by rfl) (fun K hK => ?_); go_simp; go_at_call 45; refine (node45_any _ g b _ (hgr1.ext (by (repeat (first | (with_reducible exact Ext.refl _) | assumption | (with_reducible refine Ext.alloc ?_ _) | (with_reducible refine Ext.drew ?_) | (with_reducible refine Ext.drewL ?_) | refine Ext.trans ?_ (by assumption))))) hv.lu hv.lr).mono ?_; rintro e w1 ⟨rfl, hE2⟩; rw [hmb]; refine hK _ _ (hE2) ?_; clear hK; intro hr; replace hx := hx.trans hr; clear hr; simp only [Act.put, List.setIfInBounds_toArray, List.set_cons_zero, List.set_cons_succ])
          | (refine wpL_call (by rfl) (fun K hK => ?_); go_simp; (first | (refine hK _ _ ?_ ?_; (focus ((repeat (first | (with_reducible exact Ext.refl _) | assumption | (with_reducible refine Ext.alloc ?_ _) | (with_reducible refine Ext.drew ?_) | (with_reducible refine Ext.drewL ?_) | refine Ext.trans ?_ (by assumption))); done))) | (refine hK undef _ ?_ ?_; (focus ((repeat (first | (with_reducible exact Ext.refl _) | assumption | (with_reducible refine Ext.alloc ?_ _) | (with_reducible refine Ext.drew ?_) | (with_reducible refine Ext.drewL ?_) | refine Ext.trans ?_ (by assumption))); done)))); clear hK; intro hr; replace hx := hx.trans hr; clear hr; try simp only [Act.put, List.setIfInBounds_toArray, List.set_cons_zero, List.set_cons_succ]))
        refine wpL_end ?_
        have hW2 : Ext W w1 := hW1.trans ((Ext.drew (Ext.refl wd)).trans hE2)
        go_wp2
        go_ret2
        exact ⟨rfl, h.ext hW2, Fr.of_ext (hX.trans hW2)⟩
      · have e1 : (hNd g a != hNd g b) = true := by simpa using he
        have ht : doT g 6 a b d = (g, 0, 0) := by simp [doT, ha, hb, he]
        rw [ht]
        rw [hb] at eb
        have hb2 := Lib.hid hb
        clear ht he ha
        go_enter Try.func41, Try.ntmps41
        go_upto_region 1 with fail
        have hX := Ext.alloc (Ext.refl w) (.cells #[.int .i64 6, .int .i64 a, .int .i64 b, .int .i64 d] 37)
        have k3 : Blk (w.alloc (.cells #[.int .i64 6, .int .i64 a, .int .i64 b, .int .i64 d] 37)) w.heap.size 37 #[.int .i64 6, .int .i64 a, .int .i64 b, .int .i64 d] := Blk.new rfl
        generalize w.alloc (.cells #[.int .i64 6, .int .i64 a, .int .i64 b, .int .i64 d] 37) = W at hX k3 ⊢
        have c3 := k3.cell
        have l3 := k3.lt
        replace h := h.ext hX
        have h' := h
        obtain ⟨vA, vB, vC, ps, kO, hG, _⟩ := h'
        have cO := kO.cell
        have lO := kO.lt
        have hgr := hG.rd
        refine wp_region_ext [(true, 0), (true, 1), (true, 2), (true, 3), (true, 4), (false, 5), (true, 6), (true, 7), (true, 8), (true, 9), (true, 10)] Try.mixed (by kernel_rfl) (by simp only [pick, List.filterMap_cons, List.filterMap_nil, List.getElem?_toArray, List.getElem?_cons_succ, List.getElem?_cons_zero, Option.map_some]; rfl) ?_
        intro hx
        repeat (first
          | (refine wpL_take hx (v := ?_) (by rfl) (fun _ hc => ?_) ?_
             rotate_left
             focus (go_simp; (try go_ints); exact rfl)
             simp only [Act.put, List.setIfInBounds_toArray, List.set_cons_zero, List.set_cons_succ])
          | (refine wpL_skip (by rfl) ?_; simp only [Act.put, List.setIfInBounds_toArray, List.set_cons_zero, List.set_cons_succ])
          | (refine wpL_call (by rfl) (fun K hK => ?_); go_simp; go_at_call 45; refine (node45_any _ g a _ (hgr.ext (by (repeat (first | (with_reducible exact Ext.refl _) | assumption | (with_reducible refine Ext.alloc ?_ _) | (with_reducible refine Ext.drew ?_) | (with_reducible refine Ext.drewL ?_) | refine Ext.trans ?_ (by assumption))))) hv.lu hv.lr).mono ?_; rintro e w1 ⟨rfl, hE⟩; rw [hma]; refine hK _ _ (hE) ?_; clear hK; intro hr; replace hx := hx.trans hr; clear hr; simp only [Act.put, List.setIfInBounds_toArray, List.set_cons_zero, List.set_cons_succ])
          | (refine wpL_call (by rfl) (fun K hK => ?_); go_simp; (first | (refine hK _ _ ?_ ?_; (focus ((repeat (first | (with_reducible exact Ext.refl _) | assumption | (with_reducible refine Ext.alloc ?_ _) | (with_reducible refine Ext.drew ?_) | (with_reducible refine Ext.drewL ?_) | refine Ext.trans ?_ (by assumption))); done))) | (refine hK undef _ ?_ ?_; (focus ((repeat (first | (with_reducible exact Ext.refl _) | assumption | (with_reducible refine Ext.alloc ?_ _) | (with_reducible refine Ext.drew ?_) | (with_reducible refine Ext.drewL ?_) | refine Ext.trans ?_ (by assumption))); done)))); clear hK; intro hr; replace hx := hx.trans hr; clear hr; try simp only [Act.put, List.setIfInBounds_toArray, List.set_cons_zero, List.set_cons_succ]))
        refine wpL_end ?_
        have hW1 : Ext W w1 := (Ext.drew (Ext.refl W)).trans hE
        have c3' := (k3.ext hW1).cell
        have cO' := (kO.ext hW1).cell
        have lO' := (kO.ext hW1).lt
        have l3' := (k3.ext hW1).lt
        have hgr1 := hgr.ext hW1
        obtain ⟨wd, rfl⟩ : ∃ wd, wd = w1 := ⟨_, rfl⟩
        clear hx
        go_upto_region 4 with fail
        refine wp_region_ext [(true, 0), (true, 1), (true, 2), (true, 3), (true, 4), (false, 5), (true, 6), (true, 7), (true, 8), (true, 9), (true, 10)] Try.mixed (by kernel_rfl) (by simp only [pick, List.filterMap_cons, List.filterMap_nil, List.getElem?_toArray, List.getElem?_cons_succ, List.getElem?_cons_zero, Option.map_some]; rfl) ?_
        intro hx
        repeat (first
          | (refine wpL_take hx (v := ?_) (by rfl) (fun _ hc => ?_) ?_
             rotate_left
             focus (go_simp; (try go_ints); exact rfl)
             simp only [Act.put, List.setIfInBounds_toArray, List.set_cons_zero, List.set_cons_succ])
          | (refine wpL_skip (by rfl) ?_; simp only [Act.put, List.setIfInBounds_toArray, List.set_cons_zero, List.set_cons_succ])
          | (refine wpL_call (by rfl) (fun K hK => ?_); go_simp; go_at_call 45; refine (node45_any _ g b _ (hgr1.ext (by (repeat (first | (with_reducible exact Ext.refl _) | assumption | (with_reducible refine Ext.alloc ?_ _) | (with_reducible refine Ext.drew ?_) | (with_reducible refine Ext.drewL ?_) | refine Ext.trans ?_ (by assumption))))) hv.lu hv.lr).mono ?_; rintro e w1 ⟨rfl, hE2⟩; rw [hmb]; refine hK _ _ (hE2) ?_; clear hK; intro hr; replace hx := hx.trans hr; clear hr; simp only [Act.put, List.setIfInBounds_toArray, List.set_cons_zero, List.set_cons_succ])
          | (refine wpL_call (by rfl) (fun K hK => ?_); go_simp; (first | (refine hK _ _ ?_ ?_; (focus ((repeat (first | (with_reducible exact Ext.refl _) | assumption | (with_reducible refine Ext.alloc ?_ _) | (with_reducible refine Ext.drew ?_) | (with_reducible refine Ext.drewL ?_) | refine Ext.trans ?_ (by assumption))); done))) | (refine hK undef _ ?_ ?_; (focus ((repeat (first | (with_reducible exact Ext.refl _) | assumption | (with_reducible refine Ext.alloc ?_ _) | (with_reducible refine Ext.drew ?_) | (with_reducible refine Ext.drewL ?_) | refine Ext.trans ?_ (by assumption))); done)))); clear hK; intro hr; replace hx := hx.trans hr; clear hr; try simp only [Act.put, List.setIfInBounds_toArray, List.set_cons_zero, List.set_cons_succ]))
        refine wpL_end ?_
        have hW2 : Ext W w1 := hW1.trans ((Ext.drew (Ext.refl wd)).trans hE2)
        go_wp2
        go_ret2
        exact ⟨rfl, h.ext hW2, Fr.of_ext (hX.trans hW2)⟩
    · have hmb : mNd g b = 0 := by unfold mNd; rw [if_neg hb]
      have eb : (hErr g b false != 0) = true := by simpa using hb
      have ht : doT g 6 a b d = (g, hErr g b false, 0) := by simp [doT, ha, hb]
      rw [ht]
      clear ht ha hb
      go_enter Try.func41, Try.ntmps41
      go_upto_region 1 with fail
      have hX := Ext.alloc (Ext.refl w) (.cells #[.int .i64 6, .int .i64 a, .int .i64 b, .int .i64 d] 37)
      have k3 : Blk (w.alloc (.cells #[.int .i64 6, .int .i64 a, .int .i64 b, .int .i64 d] 37)) w.heap.size 37 #[.int .i64 6, .int .i64 a, .int .i64 b, .int .i64 d] := Blk.new rfl
      generalize w.alloc (.cells #[.int .i64 6, .int .i64 a, .int .i64 b, .int .i64 d] 37) = W at hX k3 ⊢
      have c3 := k3.cell
      have l3 := k3.lt
      replace h := h.ext hX
      have h' := h
      obtain ⟨vA, vB, vC, ps, kO, hG, _⟩ := h'
      have cO := kO.cell
      have lO := kO.lt
      have hgr := hG.rd
      refine wp_region_ext [(true, 0), (true, 1), (true, 2), (true, 3), (true, 4), (false, 5), (true, 6), (true, 7), (true, 8), (true, 9), (true, 10)] Try.mixed (by kernel_rfl) (by simp only [pick, List.filterMap_cons, List.filterMap_nil, List.getElem?_toArray, List.getElem?_cons_succ, List.getElem?_cons_zero, Option.map_some]; rfl) ?_
      intro hx
      repeat (first
        | (refine wpL_take hx (v := ?_) (by rfl) (fun _ hc => ?_) ?_
           rotate_left
           focus (go_simp; (try go_ints); exact rfl)
           simp only [Act.put, List.setIfInBounds_toArray, List.set_cons_zero, List.set_cons_succ])
        | (refine wpL_skip (by rfl) ?_; simp only [Act.put, List.setIfInBounds_toArray, List.set_cons_zero, List.set_cons_succ])
        | (refine wpL_call (by rfl) (fun K hK => ?_); go_simp; go_at_call 45; refine (node45_any _ g a _ (hgr.ext (by (repeat (first | (with_reducible exact Ext.refl _) | assumption | (with_reducible refine Ext.alloc ?_ _) | (with_reducible refine Ext.drew ?_) | (with_reducible refine Ext.drewL ?_) | refine Ext.trans ?_ (by assumption))))) hv.lu hv.lr).mono ?_; rintro e w1 ⟨rfl, hE⟩; rw [hma]; refine hK _ _ (hE) ?_; clear hK; intro hr; replace hx := hx.trans hr; clear hr; simp only [Act.put, List.setIfInBounds_toArray, List.set_cons_zero, List.set_cons_succ])
        | (refine wpL_call (by rfl) (fun K hK => ?_); go_simp; (first | (refine hK _ _ ?_ ?_; (focus ((repeat (first | (with_reducible exact Ext.refl _) | assumption | (with_reducible refine Ext.alloc ?_ _) | (with_reducible refine Ext.drew ?_) | (with_reducible refine Ext.drewL ?_) | refine Ext.trans ?_ (by assumption))); done))) | (refine hK undef _ ?_ ?_; (focus ((repeat (first | (with_reducible exact Ext.refl _) | assumption | (with_reducible refine Ext.alloc ?_ _) | (with_reducible refine Ext.drew ?_) | (with_reducible refine Ext.drewL ?_) | refine Ext.trans ?_ (by assumption))); done)))); clear hK; intro hr; replace hx := hx.trans hr; clear hr; try simp only [Act.put, List.setIfInBounds_toArray, List.set_cons_zero, List.set_cons_succ]))
      refine wpL_end ?_
      have hW1 : Ext W w1 := (Ext.drew (Ext.refl W)).trans hE
      have c3' := (k3.ext hW1).cell
      have cO' := (kO.ext hW1).cell
      have lO' := (kO.ext hW1).lt
      have l3' := (k3.ext hW1).lt
      have hgr1 := hgr.ext hW1
      obtain ⟨wd, rfl⟩ : ∃ wd, wd = w1 := ⟨_, rfl⟩
      clear hx
      go_upto_region 4 with fail
      refine wp_region_ext [(true, 0), (true, 1), (true, 2), (true, 3), (true, 4), (false, 5), (true, 6), (true, 7), (true, 8), (true, 9), (true, 10)] Try.mixed (by kernel_rfl) (by simp only [pick, List.filterMap_cons, List.filterMap_nil, List.getElem?_toArray, List.getElem?_cons_succ, List.getElem?_cons_zero, Option.map_some]; rfl) ?_
      intro hx
      repeat (first
        | (refine wpL_take hx (v := ?_) (by rfl) (fun _ hc => ?_) ?_
           rotate_left
           focus (go_simp; (try go_ints); exact rfl)
           simp only [Act.put, List.setIfInBounds_toArray, List.set_cons_zero, List.set_cons_succ])
        | (refine wpL_skip (by rfl) ?_; simp only [Act.put, List.setIfInBounds_toArray, List.set_cons_zero, List.set_cons_succ])
        | (refine wpL_call (by rfl) (fun K hK => ?_); go_simp; go_at_call 45; refine (node45_any _ g b _ (hgr1.ext (by (repeat (first | (with_reducible exact Ext.refl _) | assumption | (with_reducible refine Ext.alloc ?_ _) | (with_reducible refine Ext.drew ?_) | (with_reducible refine Ext.drewL ?_) | refine Ext.trans ?_ (by assumption))))) hv.lu hv.lr).mono ?_; rintro e w1 ⟨rfl, hE2⟩; rw [hmb]; refine hK _ _ (hE2) ?_; clear hK; intro hr; replace hx := hx.trans hr; clear hr; simp only [Act.put, List.setIfInBounds_toArray, List.set_cons_zero, List.set_cons_succ])
        | (refine wpL_call (by rfl) (fun K hK => ?_); go_simp; (first | (refine hK _ _ ?_ ?_; (focus ((repeat (first | (with_reducible exact Ext.refl _) | assumption | (with_reducible refine Ext.alloc ?_ _) | (with_reducible refine Ext.drew ?_) | (with_reducible refine Ext.drewL ?_) | refine Ext.trans ?_ (by assumption))); done))) | (refine hK undef _ ?_ ?_; (focus ((repeat (first | (with_reducible exact Ext.refl _) | assumption | (with_reducible refine Ext.alloc ?_ _) | (with_reducible refine Ext.drew ?_) | (with_reducible refine Ext.drewL ?_) | refine Ext.trans ?_ (by assumption))); done)))); clear hK; intro hr; replace hx := hx.trans hr; clear hr; try simp only [Act.put, List.setIfInBounds_toArray, List.set_cons_zero, List.set_cons_succ]))
      refine wpL_end ?_
      have hW2 : Ext W w1 := hW1.trans ((Ext.drew (Ext.refl wd)).trans hE2)
      go_wp2
      go_ret2
      exact ⟨rfl, h.ext hW2, Fr.of_ext (hX.trans hW2)⟩
  · have hma : mNd g a = 0 := by unfold mNd; rw [if_neg ha]
    have ea : (hErr g a false != 0) = true := by simpa using ha
    have ht : doT g 6 a b d = (g, hErr g a false, 0) := by simp [doT, ha]
    rw [ht]
    clear ht ha
    go_enter Try.func41, Try.ntmps41
    go_upto_region 1 with fail
    have hX := Ext.alloc (Ext.refl w) (.cells #[.int .i64 6, .int .i64 a, .int .i64 b, .int .i64 d] 37)
    have k3 : Blk (w.alloc (.cells #[.int .i64 6, .int .i64 a, .int .i64 b, .int .i64 d] 37)) w.heap.size 37 #[.int .i64 6, .int .i64 a, .int .i64 b, .int .i64 d] := Blk.new rfl
    generalize w.alloc (.cells #[.int .i64 6, .int .i64 a, .int .i64 b, .int .i64 d] 37) = W at hX k3 ⊢
    have c3 := k3.cell
    have l3 := k3.lt
    replace h := h.ext hX
    have h' := h
    obtain ⟨vA, vB, vC, ps, kO, hG, _⟩ := h'
    have cO := kO.cell
    have lO := kO.lt
    have hgr := hG.rd
    refine wp_region_ext [(true, 0), (true, 1), (true, 2), (true, 3), (true, 4), (false, 5), (true, 6), (true, 7), (true, 8), (true, 9), (true, 10)] Try.mixed (by kernel_rfl) (by simp only [pick, List.filterMap_cons, List.filterMap_nil, List.getElem?_toArray, List.getElem?_cons_succ, List.getElem?_cons_zero, Option.map_some]; rfl) ?_
    intro hx
    repeat (first
      | (refine wpL_take hx (v := ?_) (by rfl) (fun _ hc => ?_) ?_
         rotate_left
         focus (go_simp; (try go_ints); exact rfl)
         simp only [Act.put, List.setIfInBounds_toArray, List.set_cons_zero, List.set_cons_succ])
      | (refine wpL_skip (by rfl) ?_; simp only [Act.put, List.setIfInBounds_toArray, List.set_cons_zero, List.set_cons_succ])
      | (refine wpL_call (by rfl) (fun K hK => ?_); go_simp; go_at_call 45; refine (node45_any _ g a _ (hgr.ext (by (repeat (first | (with_reducible exact Ext.refl _) | assumption | (with_reducible refine Ext.alloc ?_ _) | (with_reducible refine Ext.drew ?_) | (with_reducible refine Ext.drewL ?_) | refine Ext.trans ?_ (by assumption))))) hv.lu hv.lr).mono ?_; rintro e w1 ⟨rfl, hE⟩; rw [hma]; refine hK _ _ (hE) ?_; clear hK; intro hr; replace hx := hx.trans hr; clear hr; simp only [Act.put, List.setIfInBounds_toArray, List.set_cons_zero, List.set_cons_succ])
      | (refine wpL_call (by rfl) (fun K hK => ?_); go_simp; (first | (refine hK _ _ ?_ ?_; (focus ((repeat (first | (with_reducible exact Ext.refl _) | assumption | (with_reducible refine Ext.alloc ?_ _) | (with_reducible refine Ext.drew ?_) | (with_reducible refine Ext.drewL ?_) | refine Ext.trans ?_ (by assumption))); done))) | (refine hK undef _ ?_ ?_; (focus ((repeat (first | (with_reducible exact Ext.refl _) | assumption | (with_reducible refine Ext.alloc ?_ _) | (with_reducible refine Ext.drew ?_) | (with_reducible refine Ext.drewL ?_) | refine Ext.trans ?_ (by assumption))); done)))); clear hK; intro hr; replace hx := hx.trans hr; clear hr; try simp only [Act.put, List.setIfInBounds_toArray, List.set_cons_zero, List.set_cons_succ]))
    refine wpL_end ?_
    have hW1 : Ext W w1 := (Ext.drew (Ext.refl W)).trans hE
    go_wp2
    go_ret2
    exact ⟨rfl, h.ext hW1, Fr.of_ext (hX.trans hW1)⟩

theorem acc43_any (base M o i m : Nat) (g : Gr) (x : List Int × List Int) (c b d : Int) (w : World) (h : GSt base M o w g) (hv : Vld g) (hMw : M ≤ w.heap.size) (hi : i < 32) (hx : g.ns[m]? = some x) (hc : c = 2 ∨ c = 3 ∨ c = 4 ∨ c = 5 ∨ c = 7 ∨ c = 9) :
    Calls Try.prog 43 #[.pointer (some ⟨o, 0, none⟩), .int .i64 m, .agg #[.int .i64 c, .int .i64 ((i : Int) + 1), .int .i64 b, .int .i64 d]] w (AccR base M o w (accT g m c ((i : Int) + 1) b d)) := by
  have e : g.ns.getD m ([], []) = x := by rw [List.getD_eq_getElem?_getD, hx]; rfl
  have hnd := hv.nd m x hx
  rcases hc with rfl | rfl | rfl | rfl | rfl | rfl
  · by_cases hk : b < 0 ∨ (x.1.length : Int) ≤ b
    · have ht : accT g m 2 ((i : Int) + 1) b d = (g, 17, 0) := by unfold accT; rw [e, if_neg (by omega), if_neg (by omega), if_neg (by omega), if_neg (by omega), if_pos hk]
      rw [ht]
      exact acc43_out2 base M o m g x _ b d w h hv hMw hx hk
    · obtain ⟨k, rfl⟩ : ∃ k : Nat, b = k := ⟨b.toNat, by omega⟩
      have hk' : k < x.1.length := by omega
      obtain ⟨z, hz⟩ : ∃ z, x.1[k]? = some z := ⟨_, List.getElem?_eq_getElem hk'⟩
      have hzd : x.1.getD ((k : Int)).toNat 0 = z := by rw [Int.toNat_natCast, List.getD_eq_getElem?_getD, hz]; rfl
      have hzb := hnd.2.2 k z hz
      by_cases hn : z = -1
      · have ht : accT g m 2 ((i : Int) + 1) k d = (g, 0, 0) := by unfold accT; rw [e, hzd, if_neg (by omega), if_neg (by omega), if_neg (by omega), if_neg (by omega), if_neg hk, if_neg (by omega), if_pos hn]
        rw [ht]
        exact acc43_2n base M o m k g x _ d w h hMw hx hk' (by rw [hz, hn])
      · by_cases hf : freeT g.us < 32
        · have ht : accT g m 2 ((i : Int) + 1) k d = (⟨g.ns, g.us.set (freeT g.us) true, g.rs.set (freeT g.us) z⟩, 0, (freeT g.us : Int) + 1) := by unfold accT; rw [e, hzd, if_neg (by omega), if_neg (by omega), if_neg (by omega), if_neg (by omega), if_neg hk, if_neg (by omega), if_neg hn, if_pos hf]
          rw [ht]
          exact acc43_2s base M o m k (freeT g.us) g x _ d z w h hMw hx hk' hz (by omega) hv.lu hv.lr rfl hf
        · have ht : accT g m 2 ((i : Int) + 1) k d = (g, 15, 0) := by unfold accT; rw [e, hzd, if_neg (by omega), if_neg (by omega), if_neg (by omega), if_neg (by omega), if_neg hk, if_neg (by omega), if_neg hn, if_neg hf]
          rw [ht]
          exact acc43_2f base M o m k g x _ d z w h hMw hx hk' hz (by omega) hv.lu hf
  · by_cases hk : b < 0 ∨ (x.1.length : Int) ≤ b
    · have ht : accT g m 3 ((i : Int) + 1) b d = (g, 17, 0) := by unfold accT; rw [e, if_neg (by omega), if_neg (by omega), if_neg (by omega), if_neg (by omega), if_pos hk]
      rw [ht]
      exact acc43_out3 base M o m g x _ b d w h hv hMw hx hk
    · obtain ⟨k, rfl⟩ : ∃ k : Nat, b = k := ⟨b.toNat, by omega⟩
      have hk' : k < x.1.length := by omega
      by_cases hd : hErr g d false = 0
      · have ht : accT g m 3 ((i : Int) + 1) k d = (⟨g.ns.set m (x.1.set k (hNd g d), x.2), g.us, g.rs⟩, 0, 0) := by unfold accT; rw [e, if_neg (by omega), if_neg (by omega), if_neg (by omega), if_neg (by omega), if_neg hk, if_pos rfl, if_neg (by simpa using hd)]; simp
        rw [ht]
        exact acc43_3 base M o m k g x _ d w h hv hMw hx hk' hd
      · have ht : accT g m 3 ((i : Int) + 1) k d = (g, hErr g d false, 0) := by unfold accT; rw [e, if_neg (by omega), if_neg (by omega), if_neg (by omega), if_neg (by omega), if_neg hk, if_pos rfl, if_pos hd]
        rw [ht]
        exact acc43_3e base M o m k g x _ d w h hv hMw hx hk' hd
  · by_cases hk : b < 0 ∨ (x.2.length : Int) ≤ b
    · have ht : accT g m 4 ((i : Int) + 1) b d = (g, 17, 0) := by unfold accT; rw [e, if_neg (by omega), if_neg (by omega), if_pos rfl, if_pos hk]
      rw [ht]
      exact acc43_out4 base M o m g x _ b d w h hv hMw hx hk
    · obtain ⟨k, rfl⟩ : ∃ k : Nat, b = k := ⟨b.toNat, by omega⟩
      have ht : accT g m 4 ((i : Int) + 1) k d = (g, 0, x.2.getD k 0) := by unfold accT; rw [e, if_neg (by omega), if_neg (by omega), if_pos rfl, if_neg hk, Int.toNat_natCast]
      rw [ht]
      exact acc43_4 base M o m k g x _ d w h hMw hx (by omega)
  · by_cases hk : b < 0 ∨ (x.2.length : Int) ≤ b
    · have ht : accT g m 5 ((i : Int) + 1) b d = (g, 17, 0) := by unfold accT; rw [e, if_neg (by omega), if_neg (by omega), if_neg (by omega), if_pos rfl, if_pos hk]
      rw [ht]
      exact acc43_out5 base M o m g x _ b d w h hv hMw hx hk
    · obtain ⟨k, rfl⟩ : ∃ k : Nat, b = k := ⟨b.toNat, by omega⟩
      have ht : accT g m 5 ((i : Int) + 1) k d = (⟨g.ns.set m (x.1, x.2.set k (wrapU d)), g.us, g.rs⟩, 0, 0) := by unfold accT; rw [e, if_neg (by omega), if_neg (by omega), if_neg (by omega), if_pos rfl, if_neg hk, Int.toNat_natCast]
      rw [ht]
      exact acc43_5 base M o m k g x _ d w h hMw hx (by omega)
  · have ht : accT g m 7 ((i : Int) + 1) b d = (⟨g.ns, g.us.set i false, g.rs.set i (-1)⟩, 0, 0) := by simp [accT]
    rw [ht]
    exact acc43_7 base M o i m g x b d w h hv hMw hi hx
  · have ht : accT g m 9 ((i : Int) + 1) b d = (g, 0, 256 * (x.1.length : Int) + x.2.length) := by unfold accT; rw [e, if_neg (by omega), if_pos rfl]
    rw [ht]
    exact acc43_9 base M o m g x _ b d w h hv hMw hx
end Go.Proofs.Ytamghjilcfeheaa
