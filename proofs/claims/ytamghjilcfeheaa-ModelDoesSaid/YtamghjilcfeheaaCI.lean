/- The model's do and Do answer as the pure operation says. Conditions: a valid graph of at most 1000 nodes. -/
import Derived.Test.YtamghjilcfeheaaCH
import Derived.Test.YtamghjilcfeheaaMP
import Derived.Test.YtamghjilcfeheaaBF
import Derived.Test.YtamghjilcfeheaaX
namespace Go.Proofs.Ytamghjilcfeheaa
open Go.RowKit Go.Draw

theorem dor_acc {base M o : Nat} {w : World} {y : Gr × Int × Int} {r : Ending} {w' : World} (h : AccR base M o w y r w') : DoR base M o w y r w' := ⟨h.1, h.2.1.top (Nat.le_refl _), h.2.2⟩
set_option maxRecDepth 100000 in
set_option maxHeartbeats 1000000 in
theorem do29a_2 (base M o : Nat) (g : Gr) (a b d : Int) (w : World) (h : GSt base M o w g) (hv : Vld g) (hMw : M ≤ w.heap.size) :
    Calls Try.prog 29 #[.pointer (some ⟨o, 0, none⟩), .agg #[.int .i64 2, .int .i64 a, .int .i64 b, .int .i64 d]] w (DoR base M o w (doT g 2 a b d)) := by
  by_cases he : hErr g a true = 0
  · have ht : doT g 2 a b d = accT g (hNd g a).toNat 2 a b d := by unfold doT; simp [he]
    rcases hErr_ok hv.lu he with ⟨_, h0⟩ | ⟨i, rfl, hi, hu⟩
    · cases h0
    obtain ⟨m, x, _, hr, hxm⟩ := hv.at_ hu
    have hN := hNd_in g i _ hr
    have hob : objN g ((i : Int) + 1) = m := by unfold objN; rw [if_pos he, hN]
    rw [ht, hN, Int.toNat_natCast]
    clear ht hN hu hr
    go_enter Try.func29, Try.ntmps29
    go_upto_region 1 with fail
    have hX := Ext.alloc (Ext.refl w) (.cells #[.int .i64 2, .int .i64 ((i : Int) + 1), .int .i64 b, .int .i64 d] 37)
    have k3 : Blk (w.alloc (.cells #[.int .i64 2, .int .i64 ((i : Int) + 1), .int .i64 b, .int .i64 d] 37)) w.heap.size 37 #[.int .i64 2, .int .i64 ((i : Int) + 1), .int .i64 b, .int .i64 d] := Blk.new rfl
    generalize w.alloc (.cells #[.int .i64 2, .int .i64 ((i : Int) + 1), .int .i64 b, .int .i64 d] 37) = W at hX k3 ⊢
    have c3 := k3.cell
    have l3 := k3.lt
    have hz := hX.size_le
    replace h := h.ext hX
    have h' := h
    obtain ⟨vA, vB, vC, ps, kO, hG, _⟩ := h'
    have cO := kO.cell
    have lO := kO.lt
    have hgr := hG.rd
    go_upto_region 16 with fail
    refine wp_region_ext [(true, 0), (true, 1), (true, 2), (true, 3), (true, 4), (false, 5), (true, 6), (true, 7), (true, 8), (true, 9), (true, 10)] Try.mixed (by kernel_rfl) (by simp only [pick, List.filterMap_cons, List.filterMap_nil, List.getElem?_toArray, List.getElem?_cons_succ, List.getElem?_cons_zero, Option.map_some]; rfl) ?_
    intro hx
    repeat (first
      | (refine wpL_take hx (v := ?_) (by rfl) (fun _ hc => ?_) ?_
         rotate_left
         focus (go_simp; (try go_ints); exact rfl)
         simp only [Act.put, List.setIfInBounds_toArray, List.set_cons_zero, List.set_cons_succ])
      | (refine wpL_skip (by rfl) ?_; simp only [Act.put, List.setIfInBounds_toArray, List.set_cons_zero, List.set_cons_succ])
      | (refine wpL_call (by rfl) (fun K hK => ?_); go_simp; go_at_call 42; refine (object42_any _ g ((i : Int) + 1) _ (hgr.ext (by (repeat (first | (with_reducible exact Ext.refl _) | assumption | (with_reducible refine Ext.alloc ?_ _) | (with_reducible refine Ext.drew ?_) | (with_reducible refine Ext.drewL ?_) | refine Ext.trans ?_ (by assumption))))) hv).mono ?_; rintro e w1 ⟨rfl, hE⟩; rw [hob, he]; refine hK _ _ (hE) ?_; clear hK; intro hr; replace hx := hx.trans hr; clear hr; simp only [Act.put, List.setIfInBounds_toArray, List.set_cons_zero, List.set_cons_succ])
      | (refine wpL_call (by rfl) (fun K hK => ?_); go_simp; (first | (refine hK _ _ ?_ ?_; (focus ((repeat (first | (with_reducible exact Ext.refl _) | assumption | (with_reducible refine Ext.alloc ?_ _) | (with_reducible refine Ext.drew ?_) | (with_reducible refine Ext.drewL ?_) | refine Ext.trans ?_ (by assumption))); done))) | (refine hK undef _ ?_ ?_; (focus ((repeat (first | (with_reducible exact Ext.refl _) | assumption | (with_reducible refine Ext.alloc ?_ _) | (with_reducible refine Ext.drew ?_) | (with_reducible refine Ext.drewL ?_) | refine Ext.trans ?_ (by assumption))); done)))); clear hK; intro hr; replace hx := hx.trans hr; clear hr; try simp only [Act.put, List.setIfInBounds_toArray, List.set_cons_zero, List.set_cons_succ]))
    refine wpL_end ?_
    have hz1 : W.heap.size ≤ w1.heap.size := hE.size_le
    have c3' := (Blk.ext k3.drew hE).cell
    go_wp2_with (first | (go_at_call 43; refine (acc43_any base M o i m g x 2 b d _ (h.ext (by (repeat (first | (with_reducible exact Ext.refl _) | assumption | (with_reducible refine Ext.alloc ?_ _) | (with_reducible refine Ext.drew ?_) | (with_reducible refine Ext.drewL ?_) | refine Ext.trans ?_ (by assumption))))) hv (by (first | omega | (simp; done) | (simp; omega))) hi hxm (by omega)).mono ?_; rintro e w1 ⟨hr, hG1, hF1⟩; rw [hr]))
    go_ret2
    exact ⟨rfl, hG1.top (Nat.le_refl _), ((Fr.of_ext hX).ext (by (repeat (first | (with_reducible exact Ext.refl _) | assumption | (with_reducible refine Ext.alloc ?_ _) | (with_reducible refine Ext.drew ?_) | (with_reducible refine Ext.drewL ?_) | refine Ext.trans ?_ (by assumption))))).trans hF1⟩
  · have ht : doT g 2 a b d = (g, hErr g a true, 0) := by unfold doT; simp [he]
    have he2 : (hErr g a true != 0) = true := by simpa using he
    rw [ht]
    clear ht he
    go_enter Try.func29, Try.ntmps29
    go_upto_region 1 with fail
    have hX := Ext.alloc (Ext.refl w) (.cells #[.int .i64 2, .int .i64 a, .int .i64 b, .int .i64 d] 37)
    have k3 : Blk (w.alloc (.cells #[.int .i64 2, .int .i64 a, .int .i64 b, .int .i64 d] 37)) w.heap.size 37 #[.int .i64 2, .int .i64 a, .int .i64 b, .int .i64 d] := Blk.new rfl
    generalize w.alloc (.cells #[.int .i64 2, .int .i64 a, .int .i64 b, .int .i64 d] 37) = W at hX k3 ⊢
    have c3 := k3.cell
    have l3 := k3.lt
    have hz := hX.size_le
    replace h := h.ext hX
    have h' := h
    obtain ⟨vA, vB, vC, ps, kO, hG, _⟩ := h'
    have cO := kO.cell
    have lO := kO.lt
    have hgr := hG.rd
    go_upto_region 16 with fail
    refine wp_region_ext [(true, 0), (true, 1), (true, 2), (true, 3), (true, 4), (false, 5), (true, 6), (true, 7), (true, 8), (true, 9), (true, 10)] Try.mixed (by kernel_rfl) (by simp only [pick, List.filterMap_cons, List.filterMap_nil, List.getElem?_toArray, List.getElem?_cons_succ, List.getElem?_cons_zero, Option.map_some]; rfl) ?_
    intro hx
    repeat (first
      | (refine wpL_take hx (v := ?_) (by rfl) (fun _ hc => ?_) ?_
         rotate_left
         focus (go_simp; (try go_ints); exact rfl)
         simp only [Act.put, List.setIfInBounds_toArray, List.set_cons_zero, List.set_cons_succ])
      | (refine wpL_skip (by rfl) ?_; simp only [Act.put, List.setIfInBounds_toArray, List.set_cons_zero, List.set_cons_succ])
      | (refine wpL_call (by rfl) (fun K hK => ?_); go_simp; go_at_call 42; refine (object42_any _ g a _ (hgr.ext (by (repeat (first | (with_reducible exact Ext.refl _) | assumption | (with_reducible refine Ext.alloc ?_ _) | (with_reducible refine Ext.drew ?_) | (with_reducible refine Ext.drewL ?_) | refine Ext.trans ?_ (by assumption))))) hv).mono ?_; rintro e w1 ⟨rfl, hE⟩; refine hK _ _ (hE) ?_; clear hK; intro hr; replace hx := hx.trans hr; clear hr; simp only [Act.put, List.setIfInBounds_toArray, List.set_cons_zero, List.set_cons_succ])
      | (refine wpL_call (by rfl) (fun K hK => ?_); go_simp; (first | (refine hK _ _ ?_ ?_; (focus ((repeat (first | (with_reducible exact Ext.refl _) | assumption | (with_reducible refine Ext.alloc ?_ _) | (with_reducible refine Ext.drew ?_) | (with_reducible refine Ext.drewL ?_) | refine Ext.trans ?_ (by assumption))); done))) | (refine hK undef _ ?_ ?_; (focus ((repeat (first | (with_reducible exact Ext.refl _) | assumption | (with_reducible refine Ext.alloc ?_ _) | (with_reducible refine Ext.drew ?_) | (with_reducible refine Ext.drewL ?_) | refine Ext.trans ?_ (by assumption))); done)))); clear hK; intro hr; replace hx := hx.trans hr; clear hr; try simp only [Act.put, List.setIfInBounds_toArray, List.set_cons_zero, List.set_cons_succ]))
    refine wpL_end ?_
    go_wp2
    go_ret2
    exact ⟨rfl, (h.ext (by (repeat (first | (with_reducible exact Ext.refl _) | assumption | (with_reducible refine Ext.alloc ?_ _) | (with_reducible refine Ext.drew ?_) | (with_reducible refine Ext.drewL ?_) | refine Ext.trans ?_ (by assumption))))).top (Nat.le_refl _), (Fr.of_ext hX).ext (by (repeat (first | (with_reducible exact Ext.refl _) | assumption | (with_reducible refine Ext.alloc ?_ _) | (with_reducible refine Ext.drew ?_) | (with_reducible refine Ext.drewL ?_) | refine Ext.trans ?_ (by assumption))))⟩
set_option maxRecDepth 100000 in
set_option maxHeartbeats 1000000 in
theorem do29a_3 (base M o : Nat) (g : Gr) (a b d : Int) (w : World) (h : GSt base M o w g) (hv : Vld g) (hMw : M ≤ w.heap.size) :
    Calls Try.prog 29 #[.pointer (some ⟨o, 0, none⟩), .agg #[.int .i64 3, .int .i64 a, .int .i64 b, .int .i64 d]] w (DoR base M o w (doT g 3 a b d)) := by
  by_cases he : hErr g a true = 0
  · have ht : doT g 3 a b d = accT g (hNd g a).toNat 3 a b d := by unfold doT; simp [he]
    rcases hErr_ok hv.lu he with ⟨_, h0⟩ | ⟨i, rfl, hi, hu⟩
    · cases h0
    obtain ⟨m, x, _, hr, hxm⟩ := hv.at_ hu
    have hN := hNd_in g i _ hr
    have hob : objN g ((i : Int) + 1) = m := by unfold objN; rw [if_pos he, hN]
    rw [ht, hN, Int.toNat_natCast]
    clear ht hN hu hr
    go_enter Try.func29, Try.ntmps29
    go_upto_region 1 with fail
    have hX := Ext.alloc (Ext.refl w) (.cells #[.int .i64 3, .int .i64 ((i : Int) + 1), .int .i64 b, .int .i64 d] 37)
    have k3 : Blk (w.alloc (.cells #[.int .i64 3, .int .i64 ((i : Int) + 1), .int .i64 b, .int .i64 d] 37)) w.heap.size 37 #[.int .i64 3, .int .i64 ((i : Int) + 1), .int .i64 b, .int .i64 d] := Blk.new rfl
    generalize w.alloc (.cells #[.int .i64 3, .int .i64 ((i : Int) + 1), .int .i64 b, .int .i64 d] 37) = W at hX k3 ⊢
    have c3 := k3.cell
    have l3 := k3.lt
    have hz := hX.size_le
    replace h := h.ext hX
    have h' := h
    obtain ⟨vA, vB, vC, ps, kO, hG, _⟩ := h'
    have cO := kO.cell
    have lO := kO.lt
    have hgr := hG.rd
    go_upto_region 16 with fail
    refine wp_region_ext [(true, 0), (true, 1), (true, 2), (true, 3), (true, 4), (false, 5), (true, 6), (true, 7), (true, 8), (true, 9), (true, 10)] Try.mixed (by kernel_rfl) (by simp only [pick, List.filterMap_cons, List.filterMap_nil, List.getElem?_toArray, List.getElem?_cons_succ, List.getElem?_cons_zero, Option.map_some]; rfl) ?_
    intro hx
    repeat (first
      | (refine wpL_take hx (v := ?_) (by rfl) (fun _ hc => ?_) ?_
         rotate_left
         focus (go_simp; (try go_ints); exact rfl)
         simp only [Act.put, List.setIfInBounds_toArray, List.set_cons_zero, List.set_cons_succ])
      | (refine wpL_skip (by rfl) ?_; simp only [Act.put, List.setIfInBounds_toArray, List.set_cons_zero, List.set_cons_succ])
      | (refine wpL_call (by rfl) (fun K hK => ?_); go_simp; go_at_call 42; refine (object42_any _ g ((i : Int) + 1) _ (hgr.ext (by (repeat (first | (with_reducible exact Ext.refl _) | assumption | (with_reducible refine Ext.alloc ?_ _) | (with_reducible refine Ext.drew ?_) | (with_reducible refine Ext.drewL ?_) | refine Ext.trans ?_ (by assumption))))) hv).mono ?_; rintro e w1 ⟨rfl, hE⟩; rw [hob, he]; refine hK _ _ (hE) ?_; clear hK; intro hr; replace hx := hx.trans hr; clear hr; simp only [Act.put, List.setIfInBounds_toArray, List.set_cons_zero, List.set_cons_succ])
      | (refine wpL_call (by rfl) (fun K hK => ?_); go_simp; (first | (refine hK _ _ ?_ ?_; (focus ((repeat (first | (with_reducible exact Ext.refl _) | assumption | (with_reducible refine Ext.alloc ?_ _) | (with_reducible refine Ext.drew ?_) | (with_reducible refine Ext.drewL ?_) | refine Ext.trans ?_ (by assumption))); done))) | (refine hK undef _ ?_ ?_; (focus ((repeat (first | (with_reducible exact Ext.refl _) | assumption | (with_reducible refine Ext.alloc ?_ _) | (with_reducible refine Ext.drew ?_) | (with_reducible refine Ext.drewL ?_) | refine Ext.trans ?_ (by assumption))); done)))); clear hK; intro hr; replace hx := hx.trans hr; clear hr; try simp only [Act.put, List.setIfInBounds_toArray, List.set_cons_zero, List.set_cons_succ]))
    refine wpL_end ?_
    have hz1 : W.heap.size ≤ w1.heap.size := hE.size_le
    have c3' := (Blk.ext k3.drew hE).cell
    go_wp2_with (first | (go_at_call 43; refine (acc43_any base M o i m g x 3 b d _ (h.ext (by (repeat (first | (with_reducible exact Ext.refl _) | assumption | (with_reducible refine Ext.alloc ?_ _) | (with_reducible refine Ext.drew ?_) | (with_reducible refine Ext.drewL ?_) | refine Ext.trans ?_ (by assumption))))) hv (by (first | omega | (simp; done) | (simp; omega))) hi hxm (by omega)).mono ?_; rintro e w1 ⟨hr, hG1, hF1⟩; rw [hr]))
    go_ret2
    exact ⟨rfl, hG1.top (Nat.le_refl _), ((Fr.of_ext hX).ext (by (repeat (first | (with_reducible exact Ext.refl _) | assumption | (with_reducible refine Ext.alloc ?_ _) | (with_reducible refine Ext.drew ?_) | (with_reducible refine Ext.drewL ?_) | refine Ext.trans ?_ (by assumption))))).trans hF1⟩
  · have ht : doT g 3 a b d = (g, hErr g a true, 0) := by unfold doT; simp [he]
    have he2 : (hErr g a true != 0) = true := by simpa using he
    rw [ht]
    clear ht he
    go_enter Try.func29, Try.ntmps29
    go_upto_region 1 with fail
    have hX := Ext.alloc (Ext.refl w) (.cells #[.int .i64 3, .int .i64 a, .int .i64 b, .int .i64 d] 37)
    have k3 : Blk (w.alloc (.cells #[.int .i64 3, .int .i64 a, .int .i64 b, .int .i64 d] 37)) w.heap.size 37 #[.int .i64 3, .int .i64 a, .int .i64 b, .int .i64 d] := Blk.new rfl
    generalize w.alloc (.cells #[.int .i64 3, .int .i64 a, .int .i64 b, .int .i64 d] 37) = W at hX k3 ⊢
    have c3 := k3.cell
    have l3 := k3.lt
    have hz := hX.size_le
    replace h := h.ext hX
    have h' := h
    obtain ⟨vA, vB, vC, ps, kO, hG, _⟩ := h'
    have cO := kO.cell
    have lO := kO.lt
    have hgr := hG.rd
    go_upto_region 16 with fail
    refine wp_region_ext [(true, 0), (true, 1), (true, 2), (true, 3), (true, 4), (false, 5), (true, 6), (true, 7), (true, 8), (true, 9), (true, 10)] Try.mixed (by kernel_rfl) (by simp only [pick, List.filterMap_cons, List.filterMap_nil, List.getElem?_toArray, List.getElem?_cons_succ, List.getElem?_cons_zero, Option.map_some]; rfl) ?_
    intro hx
    repeat (first
      | (refine wpL_take hx (v := ?_) (by rfl) (fun _ hc => ?_) ?_
         rotate_left
         focus (go_simp; (try go_ints); exact rfl)
         simp only [Act.put, List.setIfInBounds_toArray, List.set_cons_zero, List.set_cons_succ])
      | (refine wpL_skip (by rfl) ?_; simp only [Act.put, List.setIfInBounds_toArray, List.set_cons_zero, List.set_cons_succ])
      | (refine wpL_call (by rfl) (fun K hK => ?_); go_simp; go_at_call 42; refine (object42_any _ g a _ (hgr.ext (by (repeat (first | (with_reducible exact Ext.refl _) | assumption | (with_reducible refine Ext.alloc ?_ _) | (with_reducible refine Ext.drew ?_) | (with_reducible refine Ext.drewL ?_) | refine Ext.trans ?_ (by assumption))))) hv).mono ?_; rintro e w1 ⟨rfl, hE⟩; refine hK _ _ (hE) ?_; clear hK; intro hr; replace hx := hx.trans hr; clear hr; simp only [Act.put, List.setIfInBounds_toArray, List.set_cons_zero, List.set_cons_succ])
      | (refine wpL_call (by rfl) (fun K hK => ?_); go_simp; (first | (refine hK _ _ ?_ ?_; (focus ((repeat (first | (with_reducible exact Ext.refl _) | assumption | (with_reducible refine Ext.alloc ?_ _) | (with_reducible refine Ext.drew ?_) | (with_reducible refine Ext.drewL ?_) | refine Ext.trans ?_ (by assumption))); done))) | (refine hK undef _ ?_ ?_; (focus ((repeat (first | (with_reducible exact Ext.refl _) | assumption | (with_reducible refine Ext.alloc ?_ _) | (with_reducible refine Ext.drew ?_) | (with_reducible refine Ext.drewL ?_) | refine Ext.trans ?_ (by assumption))); done)))); clear hK; intro hr; replace hx := hx.trans hr; clear hr; try simp only [Act.put, List.setIfInBounds_toArray, List.set_cons_zero, List.set_cons_succ]))
    refine wpL_end ?_
    go_wp2
    go_ret2
    exact ⟨rfl, (h.ext (by (repeat (first | (with_reducible exact Ext.refl _) | assumption | (with_reducible refine Ext.alloc ?_ _) | (with_reducible refine Ext.drew ?_) | (with_reducible refine Ext.drewL ?_) | refine Ext.trans ?_ (by assumption))))).top (Nat.le_refl _), (Fr.of_ext hX).ext (by (repeat (first | (with_reducible exact Ext.refl _) | assumption | (with_reducible refine Ext.alloc ?_ _) | (with_reducible refine Ext.drew ?_) | (with_reducible refine Ext.drewL ?_) | refine Ext.trans ?_ (by assumption))))⟩
set_option maxRecDepth 100000 in
set_option maxHeartbeats 1000000 in
theorem do29a_4 (base M o : Nat) (g : Gr) (a b d : Int) (w : World) (h : GSt base M o w g) (hv : Vld g) (hMw : M ≤ w.heap.size) :
    Calls Try.prog 29 #[.pointer (some ⟨o, 0, none⟩), .agg #[.int .i64 4, .int .i64 a, .int .i64 b, .int .i64 d]] w (DoR base M o w (doT g 4 a b d)) := by
  by_cases he : hErr g a true = 0
  · have ht : doT g 4 a b d = accT g (hNd g a).toNat 4 a b d := by unfold doT; simp [he]
    rcases hErr_ok hv.lu he with ⟨_, h0⟩ | ⟨i, rfl, hi, hu⟩
    · cases h0
    obtain ⟨m, x, _, hr, hxm⟩ := hv.at_ hu
    have hN := hNd_in g i _ hr
    have hob : objN g ((i : Int) + 1) = m := by unfold objN; rw [if_pos he, hN]
    rw [ht, hN, Int.toNat_natCast]
    clear ht hN hu hr
    go_enter Try.func29, Try.ntmps29
    go_upto_region 1 with fail
    have hX := Ext.alloc (Ext.refl w) (.cells #[.int .i64 4, .int .i64 ((i : Int) + 1), .int .i64 b, .int .i64 d] 37)
    have k3 : Blk (w.alloc (.cells #[.int .i64 4, .int .i64 ((i : Int) + 1), .int .i64 b, .int .i64 d] 37)) w.heap.size 37 #[.int .i64 4, .int .i64 ((i : Int) + 1), .int .i64 b, .int .i64 d] := Blk.new rfl
    generalize w.alloc (.cells #[.int .i64 4, .int .i64 ((i : Int) + 1), .int .i64 b, .int .i64 d] 37) = W at hX k3 ⊢
    have c3 := k3.cell
    have l3 := k3.lt
    have hz := hX.size_le
    replace h := h.ext hX
    have h' := h
    obtain ⟨vA, vB, vC, ps, kO, hG, _⟩ := h'
    have cO := kO.cell
    have lO := kO.lt
    have hgr := hG.rd
    go_upto_region 16 with fail
    refine wp_region_ext [(true, 0), (true, 1), (true, 2), (true, 3), (true, 4), (false, 5), (true, 6), (true, 7), (true, 8), (true, 9), (true, 10)] Try.mixed (by kernel_rfl) (by simp only [pick, List.filterMap_cons, List.filterMap_nil, List.getElem?_toArray, List.getElem?_cons_succ, List.getElem?_cons_zero, Option.map_some]; rfl) ?_
    intro hx
    repeat (first
      | (refine wpL_take hx (v := ?_) (by rfl) (fun _ hc => ?_) ?_
         rotate_left
         focus (go_simp; (try go_ints); exact rfl)
         simp only [Act.put, List.setIfInBounds_toArray, List.set_cons_zero, List.set_cons_succ])
      | (refine wpL_skip (by rfl) ?_; simp only [Act.put, List.setIfInBounds_toArray, List.set_cons_zero, List.set_cons_succ])
      | (refine wpL_call (by rfl) (fun K hK => ?_); go_simp; go_at_call 42; refine (object42_any _ g ((i : Int) + 1) _ (hgr.ext (by (repeat (first | (with_reducible exact Ext.refl _) | assumption | (with_reducible refine Ext.alloc ?_ _) | (with_reducible refine Ext.drew ?_) | (with_reducible refine Ext.drewL ?_) | refine Ext.trans ?_ (by assumption))))) hv).mono ?_; rintro e w1 ⟨rfl, hE⟩; rw [hob, he]; refine hK _ _ (hE) ?_; clear hK; intro hr; replace hx := hx.trans hr; clear hr; simp only [Act.put, List.setIfInBounds_toArray, List.set_cons_zero, List.set_cons_succ])
      | (refine wpL_call (by rfl) (fun K hK => ?_); go_simp; (first | (refine hK _ _ ?_ ?_; (focus ((repeat (first | (with_reducible exact Ext.refl _) | assumption | (with_reducible refine Ext.alloc ?_ _) | (with_reducible refine Ext.drew ?_) | (with_reducible refine Ext.drewL ?_) | refine Ext.trans ?_ (by assumption))); done))) | (refine hK undef _ ?_ ?_; (focus ((repeat (first | (with_reducible exact Ext.refl _) | assumption | (with_reducible refine Ext.alloc ?_ _) | (with_reducible refine Ext.drew ?_) | (with_reducible refine Ext.drewL ?_) | refine Ext.trans ?_ (by assumption))); done)))); clear hK; intro hr; replace hx := hx.trans hr; clear hr; try simp only [Act.put, List.setIfInBounds_toArray, List.set_cons_zero, List.set_cons_succ]))
    refine wpL_end ?_
    have hz1 : W.heap.size ≤ w1.heap.size := hE.size_le
    have c3' := (Blk.ext k3.drew hE).cell
    go_wp2_with (first | (go_at_call 43; refine (acc43_any base M o i m g x 4 b d _ (h.ext (by (repeat (first | (with_reducible exact Ext.refl _) | assumption | (with_reducible refine Ext.alloc ?_ _) | (with_reducible refine Ext.drew ?_) | (with_reducible refine Ext.drewL ?_) | refine Ext.trans ?_ (by assumption))))) hv (by (first | omega | (simp; done) | (simp; omega))) hi hxm (by omega)).mono ?_; rintro e w1 ⟨hr, hG1, hF1⟩; rw [hr]))
    go_ret2
    exact ⟨rfl, hG1.top (Nat.le_refl _), ((Fr.of_ext hX).ext (by (repeat (first | (with_reducible exact Ext.refl _) | assumption | (with_reducible refine Ext.alloc ?_ _) | (with_reducible refine Ext.drew ?_) | (with_reducible refine Ext.drewL ?_) | refine Ext.trans ?_ (by assumption))))).trans hF1⟩
  · have ht : doT g 4 a b d = (g, hErr g a true, 0) := by unfold doT; simp [he]
    have he2 : (hErr g a true != 0) = true := by simpa using he
    rw [ht]
    clear ht he
    go_enter Try.func29, Try.ntmps29
    go_upto_region 1 with fail
    have hX := Ext.alloc (Ext.refl w) (.cells #[.int .i64 4, .int .i64 a, .int .i64 b, .int .i64 d] 37)
    have k3 : Blk (w.alloc (.cells #[.int .i64 4, .int .i64 a, .int .i64 b, .int .i64 d] 37)) w.heap.size 37 #[.int .i64 4, .int .i64 a, .int .i64 b, .int .i64 d] := Blk.new rfl
    generalize w.alloc (.cells #[.int .i64 4, .int .i64 a, .int .i64 b, .int .i64 d] 37) = W at hX k3 ⊢
    have c3 := k3.cell
    have l3 := k3.lt
    have hz := hX.size_le
    replace h := h.ext hX
    have h' := h
    obtain ⟨vA, vB, vC, ps, kO, hG, _⟩ := h'
    have cO := kO.cell
    have lO := kO.lt
    have hgr := hG.rd
    go_upto_region 16 with fail
    refine wp_region_ext [(true, 0), (true, 1), (true, 2), (true, 3), (true, 4), (false, 5), (true, 6), (true, 7), (true, 8), (true, 9), (true, 10)] Try.mixed (by kernel_rfl) (by simp only [pick, List.filterMap_cons, List.filterMap_nil, List.getElem?_toArray, List.getElem?_cons_succ, List.getElem?_cons_zero, Option.map_some]; rfl) ?_
    intro hx
    repeat (first
      | (refine wpL_take hx (v := ?_) (by rfl) (fun _ hc => ?_) ?_
         rotate_left
         focus (go_simp; (try go_ints); exact rfl)
         simp only [Act.put, List.setIfInBounds_toArray, List.set_cons_zero, List.set_cons_succ])
      | (refine wpL_skip (by rfl) ?_; simp only [Act.put, List.setIfInBounds_toArray, List.set_cons_zero, List.set_cons_succ])
      | (refine wpL_call (by rfl) (fun K hK => ?_); go_simp; go_at_call 42; refine (object42_any _ g a _ (hgr.ext (by (repeat (first | (with_reducible exact Ext.refl _) | assumption | (with_reducible refine Ext.alloc ?_ _) | (with_reducible refine Ext.drew ?_) | (with_reducible refine Ext.drewL ?_) | refine Ext.trans ?_ (by assumption))))) hv).mono ?_; rintro e w1 ⟨rfl, hE⟩; refine hK _ _ (hE) ?_; clear hK; intro hr; replace hx := hx.trans hr; clear hr; simp only [Act.put, List.setIfInBounds_toArray, List.set_cons_zero, List.set_cons_succ])
      | (refine wpL_call (by rfl) (fun K hK => ?_); go_simp; (first | (refine hK _ _ ?_ ?_; (focus ((repeat (first | (with_reducible exact Ext.refl _) | assumption | (with_reducible refine Ext.alloc ?_ _) | (with_reducible refine Ext.drew ?_) | (with_reducible refine Ext.drewL ?_) | refine Ext.trans ?_ (by assumption))); done))) | (refine hK undef _ ?_ ?_; (focus ((repeat (first | (with_reducible exact Ext.refl _) | assumption | (with_reducible refine Ext.alloc ?_ _) | (with_reducible refine Ext.drew ?_) | (with_reducible refine Ext.drewL ?_) | refine Ext.trans ?_ (by assumption))); done)))); clear hK; intro hr; replace hx := hx.trans hr; clear hr; try simp only [Act.put, List.setIfInBounds_toArray, List.set_cons_zero, List.set_cons_succ]))
    refine wpL_end ?_
    go_wp2
    go_ret2
    exact ⟨rfl, (h.ext (by (repeat (first | (with_reducible exact Ext.refl _) | assumption | (with_reducible refine Ext.alloc ?_ _) | (with_reducible refine Ext.drew ?_) | (with_reducible refine Ext.drewL ?_) | refine Ext.trans ?_ (by assumption))))).top (Nat.le_refl _), (Fr.of_ext hX).ext (by (repeat (first | (with_reducible exact Ext.refl _) | assumption | (with_reducible refine Ext.alloc ?_ _) | (with_reducible refine Ext.drew ?_) | (with_reducible refine Ext.drewL ?_) | refine Ext.trans ?_ (by assumption))))⟩
set_option maxRecDepth 100000 in
set_option maxHeartbeats 1000000 in
theorem do29a_5 (base M o : Nat) (g : Gr) (a b d : Int) (w : World) (h : GSt base M o w g) (hv : Vld g) (hMw : M ≤ w.heap.size) :
    Calls Try.prog 29 #[.pointer (some ⟨o, 0, none⟩), .agg #[.int .i64 5, .int .i64 a, .int .i64 b, .int .i64 d]] w (DoR base M o w (doT g 5 a b d)) := by
  by_cases he : hErr g a true = 0
  · have ht : doT g 5 a b d = accT g (hNd g a).toNat 5 a b d := by unfold doT; simp [he]
    rcases hErr_ok hv.lu he with ⟨_, h0⟩ | ⟨i, rfl, hi, hu⟩
    · cases h0
    obtain ⟨m, x, _, hr, hxm⟩ := hv.at_ hu
    have hN := hNd_in g i _ hr
    have hob : objN g ((i : Int) + 1) = m := by unfold objN; rw [if_pos he, hN]
    rw [ht, hN, Int.toNat_natCast]
    clear ht hN hu hr
    go_enter Try.func29, Try.ntmps29
    go_upto_region 1 with fail
    have hX := Ext.alloc (Ext.refl w) (.cells #[.int .i64 5, .int .i64 ((i : Int) + 1), .int .i64 b, .int .i64 d] 37)
    have k3 : Blk (w.alloc (.cells #[.int .i64 5, .int .i64 ((i : Int) + 1), .int .i64 b, .int .i64 d] 37)) w.heap.size 37 #[.int .i64 5, .int .i64 ((i : Int) + 1), .int .i64 b, .int .i64 d] := Blk.new rfl
    generalize w.alloc (.cells #[.int .i64 5, .int .i64 ((i : Int) + 1), .int .i64 b, .int .i64 d] 37) = W at hX k3 ⊢
    have c3 := k3.cell
    have l3 := k3.lt
    have hz := hX.size_le
    replace h := h.ext hX
    have h' := h
    obtain ⟨vA, vB, vC, ps, kO, hG, _⟩ := h'
    have cO := kO.cell
    have lO := kO.lt
    have hgr := hG.rd
    go_upto_region 16 with fail
    refine wp_region_ext [(true, 0), (true, 1), (true, 2), (true, 3), (true, 4), (false, 5), (true, 6), (true, 7), (true, 8), (true, 9), (true, 10)] Try.mixed (by kernel_rfl) (by simp only [pick, List.filterMap_cons, List.filterMap_nil, List.getElem?_toArray, List.getElem?_cons_succ, List.getElem?_cons_zero, Option.map_some]; rfl) ?_
    intro hx
    repeat (first
      | (refine wpL_take hx (v := ?_) (by rfl) (fun _ hc => ?_) ?_
         rotate_left
         focus (go_simp; (try go_ints); exact rfl)
         simp only [Act.put, List.setIfInBounds_toArray, List.set_cons_zero, List.set_cons_succ])
      | (refine wpL_skip (by rfl) ?_; simp only [Act.put, List.setIfInBounds_toArray, List.set_cons_zero, List.set_cons_succ])
      | (refine wpL_call (by rfl) (fun K hK => ?_); go_simp; go_at_call 42; refine (object42_any _ g ((i : Int) + 1) _ (hgr.ext (by (repeat (first | (with_reducible exact Ext.refl _) | assumption | (with_reducible refine Ext.alloc ?_ _) | (with_reducible refine Ext.drew ?_) | (with_reducible refine Ext.drewL ?_) | refine Ext.trans ?_ (by assumption))))) hv).mono ?_; rintro e w1 ⟨rfl, hE⟩; rw [hob, he]; refine hK _ _ (hE) ?_; clear hK; intro hr; replace hx := hx.trans hr; clear hr; simp only [Act.put, List.setIfInBounds_toArray, List.set_cons_zero, List.set_cons_succ])
      | (refine wpL_call (by rfl) (fun K hK => ?_); go_simp; (first | (refine hK _ _ ?_ ?_; (focus ((repeat (first | (with_reducible exact Ext.refl _) | assumption | (with_reducible refine Ext.alloc ?_ _) | (with_reducible refine Ext.drew ?_) | (with_reducible refine Ext.drewL ?_) | refine Ext.trans ?_ (by assumption))); done))) | (refine hK undef _ ?_ ?_; (focus ((repeat (first | (with_reducible exact Ext.refl _) | assumption | (with_reducible refine Ext.alloc ?_ _) | (with_reducible refine Ext.drew ?_) | (with_reducible refine Ext.drewL ?_) | refine Ext.trans ?_ (by assumption))); done)))); clear hK; intro hr; replace hx := hx.trans hr; clear hr; try simp only [Act.put, List.setIfInBounds_toArray, List.set_cons_zero, List.set_cons_succ]))
    refine wpL_end ?_
    have hz1 : W.heap.size ≤ w1.heap.size := hE.size_le
    have c3' := (Blk.ext k3.drew hE).cell
    go_wp2_with (first | (go_at_call 43; refine (acc43_any base M o i m g x 5 b d _ (h.ext (by (repeat (first | (with_reducible exact Ext.refl _) | assumption | (with_reducible refine Ext.alloc ?_ _) | (with_reducible refine Ext.drew ?_) | (with_reducible refine Ext.drewL ?_) | refine Ext.trans ?_ (by assumption))))) hv (by (first | omega | (simp; done) | (simp; omega))) hi hxm (by omega)).mono ?_; rintro e w1 ⟨hr, hG1, hF1⟩; rw [hr]))
    go_ret2
    exact ⟨rfl, hG1.top (Nat.le_refl _), ((Fr.of_ext hX).ext (by (repeat (first | (with_reducible exact Ext.refl _) | assumption | (with_reducible refine Ext.alloc ?_ _) | (with_reducible refine Ext.drew ?_) | (with_reducible refine Ext.drewL ?_) | refine Ext.trans ?_ (by assumption))))).trans hF1⟩
  · have ht : doT g 5 a b d = (g, hErr g a true, 0) := by unfold doT; simp [he]
    have he2 : (hErr g a true != 0) = true := by simpa using he
    rw [ht]
    clear ht he
    go_enter Try.func29, Try.ntmps29
    go_upto_region 1 with fail
    have hX := Ext.alloc (Ext.refl w) (.cells #[.int .i64 5, .int .i64 a, .int .i64 b, .int .i64 d] 37)
    have k3 : Blk (w.alloc (.cells #[.int .i64 5, .int .i64 a, .int .i64 b, .int .i64 d] 37)) w.heap.size 37 #[.int .i64 5, .int .i64 a, .int .i64 b, .int .i64 d] := Blk.new rfl
    generalize w.alloc (.cells #[.int .i64 5, .int .i64 a, .int .i64 b, .int .i64 d] 37) = W at hX k3 ⊢
    have c3 := k3.cell
    have l3 := k3.lt
    have hz := hX.size_le
    replace h := h.ext hX
    have h' := h
    obtain ⟨vA, vB, vC, ps, kO, hG, _⟩ := h'
    have cO := kO.cell
    have lO := kO.lt
    have hgr := hG.rd
    go_upto_region 16 with fail
    refine wp_region_ext [(true, 0), (true, 1), (true, 2), (true, 3), (true, 4), (false, 5), (true, 6), (true, 7), (true, 8), (true, 9), (true, 10)] Try.mixed (by kernel_rfl) (by simp only [pick, List.filterMap_cons, List.filterMap_nil, List.getElem?_toArray, List.getElem?_cons_succ, List.getElem?_cons_zero, Option.map_some]; rfl) ?_
    intro hx
    repeat (first
      | (refine wpL_take hx (v := ?_) (by rfl) (fun _ hc => ?_) ?_
         rotate_left
         focus (go_simp; (try go_ints); exact rfl)
         simp only [Act.put, List.setIfInBounds_toArray, List.set_cons_zero, List.set_cons_succ])
      | (refine wpL_skip (by rfl) ?_; simp only [Act.put, List.setIfInBounds_toArray, List.set_cons_zero, List.set_cons_succ])
      | (refine wpL_call (by rfl) (fun K hK => ?_); go_simp; go_at_call 42; refine (object42_any _ g a _ (hgr.ext (by (repeat (first | (with_reducible exact Ext.refl _) | assumption | (with_reducible refine Ext.alloc ?_ _) | (with_reducible refine Ext.drew ?_) | (with_reducible refine Ext.drewL ?_) | refine Ext.trans ?_ (by assumption))))) hv).mono ?_; rintro e w1 ⟨rfl, hE⟩; refine hK _ _ (hE) ?_; clear hK; intro hr; replace hx := hx.trans hr; clear hr; simp only [Act.put, List.setIfInBounds_toArray, List.set_cons_zero, List.set_cons_succ])
      | (refine wpL_call (by rfl) (fun K hK => ?_); go_simp; (first | (refine hK _ _ ?_ ?_; (focus ((repeat (first | (with_reducible exact Ext.refl _) | assumption | (with_reducible refine Ext.alloc ?_ _) | (with_reducible refine Ext.drew ?_) | (with_reducible refine Ext.drewL ?_) | refine Ext.trans ?_ (by assumption))); done))) | (refine hK undef _ ?_ ?_; (focus ((repeat (first | (with_reducible exact Ext.refl _) | assumption | (with_reducible refine Ext.alloc ?_ _) | (with_reducible refine Ext.drew ?_) | (with_reducible refine Ext.drewL ?_) | refine Ext.trans ?_ (by assumption))); done)))); clear hK; intro hr; replace hx := hx.trans hr; clear hr; try simp only [Act.put, List.setIfInBounds_toArray, List.set_cons_zero, List.set_cons_succ]))
    refine wpL_end ?_
    go_wp2
    go_ret2
    exact ⟨rfl, (h.ext (by (repeat (first | (with_reducible exact Ext.refl _) | assumption | (with_reducible refine Ext.alloc ?_ _) | (with_reducible refine Ext.drew ?_) | (with_reducible refine Ext.drewL ?_) | refine Ext.trans ?_ (by assumption))))).top (Nat.le_refl _), (Fr.of_ext hX).ext (by (repeat (first | (with_reducible exact Ext.refl _) | assumption | (with_reducible refine Ext.alloc ?_ _) | (with_reducible refine Ext.drew ?_) | (with_reducible refine Ext.drewL ?_) | refine Ext.trans ?_ (by assumption))))⟩
set_option maxRecDepth 100000 in
set_option maxHeartbeats 1000000 in
theorem do29a_9 (base M o : Nat) (g : Gr) (a b d : Int) (w : World) (h : GSt base M o w g) (hv : Vld g) (hMw : M ≤ w.heap.size) :
    Calls Try.prog 29 #[.pointer (some ⟨o, 0, none⟩), .agg #[.int .i64 9, .int .i64 a, .int .i64 b, .int .i64 d]] w (DoR base M o w (doT g 9 a b d)) := by
  by_cases he : hErr g a true = 0
  · have ht : doT g 9 a b d = accT g (hNd g a).toNat 9 a b d := by unfold doT; simp [he]
    rcases hErr_ok hv.lu he with ⟨_, h0⟩ | ⟨i, rfl, hi, hu⟩
    · cases h0
    obtain ⟨m, x, _, hr, hxm⟩ := hv.at_ hu
    have hN := hNd_in g i _ hr
    have hob : objN g ((i : Int) + 1) = m := by unfold objN; rw [if_pos he, hN]
    rw [ht, hN, Int.toNat_natCast]
    clear ht hN hu hr
    go_enter Try.func29, Try.ntmps29
    go_upto_region 1 with fail
    have hX := Ext.alloc (Ext.refl w) (.cells #[.int .i64 9, .int .i64 ((i : Int) + 1), .int .i64 b, .int .i64 d] 37)
    have k3 : Blk (w.alloc (.cells #[.int .i64 9, .int .i64 ((i : Int) + 1), .int .i64 b, .int .i64 d] 37)) w.heap.size 37 #[.int .i64 9, .int .i64 ((i : Int) + 1), .int .i64 b, .int .i64 d] := Blk.new rfl
    generalize w.alloc (.cells #[.int .i64 9, .int .i64 ((i : Int) + 1), .int .i64 b, .int .i64 d] 37) = W at hX k3 ⊢
    have c3 := k3.cell
    have l3 := k3.lt
    have hz := hX.size_le
    replace h := h.ext hX
    have h' := h
    obtain ⟨vA, vB, vC, ps, kO, hG, _⟩ := h'
    have cO := kO.cell
    have lO := kO.lt
    have hgr := hG.rd
    go_upto_region 16 with fail
    refine wp_region_ext [(true, 0), (true, 1), (true, 2), (true, 3), (true, 4), (false, 5), (true, 6), (true, 7), (true, 8), (true, 9), (true, 10)] Try.mixed (by kernel_rfl) (by simp only [pick, List.filterMap_cons, List.filterMap_nil, List.getElem?_toArray, List.getElem?_cons_succ, List.getElem?_cons_zero, Option.map_some]; rfl) ?_
    intro hx
    repeat (first
      | (refine wpL_take hx (v := ?_) (by rfl) (fun _ hc => ?_) ?_
         rotate_left
         focus (go_simp; (try go_ints); exact rfl)
         simp only [Act.put, List.setIfInBounds_toArray, List.set_cons_zero, List.set_cons_succ])
      | (refine wpL_skip (by rfl) ?_; simp only [Act.put, List.setIfInBounds_toArray, List.set_cons_zero, List.set_cons_succ])
      | (refine wpL_call (by rfl) (fun K hK => ?_); go_simp; go_at_call 42; refine (object42_any _ g ((i : Int) + 1) _ (hgr.ext (by (repeat (first | (with_reducible exact Ext.refl _) | assumption | (with_reducible refine Ext.alloc ?_ _) | (with_reducible refine Ext.drew ?_) | (with_reducible refine Ext.drewL ?_) | refine Ext.trans ?_ (by assumption))))) hv).mono ?_; rintro e w1 ⟨rfl, hE⟩; rw [hob, he]; refine hK _ _ (hE) ?_; clear hK; intro hr; replace hx := hx.trans hr; clear hr; simp only [Act.put, List.setIfInBounds_toArray, List.set_cons_zero, List.set_cons_succ])
      | (refine wpL_call (by rfl) (fun K hK => ?_); go_simp; (first | (refine hK _ _ ?_ ?_; (focus ((repeat (first | (with_reducible exact Ext.refl _) | assumption | (with_reducible refine Ext.alloc ?_ _) | (with_reducible refine Ext.drew ?_) | (with_reducible refine Ext.drewL ?_) | refine Ext.trans ?_ (by assumption))); done))) | (refine hK undef _ ?_ ?_; (focus ((repeat (first | (with_reducible exact Ext.refl _) | assumption | (with_reducible refine Ext.alloc ?_ _) | (with_reducible refine Ext.drew ?_) | (with_reducible refine Ext.drewL ?_) | refine Ext.trans ?_ (by assumption))); done)))); clear hK; intro hr; replace hx := hx.trans hr; clear hr; try simp only [Act.put, List.setIfInBounds_toArray, List.set_cons_zero, List.set_cons_succ]))
    refine wpL_end ?_
    have hz1 : W.heap.size ≤ w1.heap.size := hE.size_le
    have c3' := (Blk.ext k3.drew hE).cell
    go_wp2_with (first | (go_at_call 43; refine (acc43_any base M o i m g x 9 b d _ (h.ext (by (repeat (first | (with_reducible exact Ext.refl _) | assumption | (with_reducible refine Ext.alloc ?_ _) | (with_reducible refine Ext.drew ?_) | (with_reducible refine Ext.drewL ?_) | refine Ext.trans ?_ (by assumption))))) hv (by (first | omega | (simp; done) | (simp; omega))) hi hxm (by omega)).mono ?_; rintro e w1 ⟨hr, hG1, hF1⟩; rw [hr]))
    go_ret2
    exact ⟨rfl, hG1.top (Nat.le_refl _), ((Fr.of_ext hX).ext (by (repeat (first | (with_reducible exact Ext.refl _) | assumption | (with_reducible refine Ext.alloc ?_ _) | (with_reducible refine Ext.drew ?_) | (with_reducible refine Ext.drewL ?_) | refine Ext.trans ?_ (by assumption))))).trans hF1⟩
  · have ht : doT g 9 a b d = (g, hErr g a true, 0) := by unfold doT; simp [he]
    have he2 : (hErr g a true != 0) = true := by simpa using he
    rw [ht]
    clear ht he
    go_enter Try.func29, Try.ntmps29
    go_upto_region 1 with fail
    have hX := Ext.alloc (Ext.refl w) (.cells #[.int .i64 9, .int .i64 a, .int .i64 b, .int .i64 d] 37)
    have k3 : Blk (w.alloc (.cells #[.int .i64 9, .int .i64 a, .int .i64 b, .int .i64 d] 37)) w.heap.size 37 #[.int .i64 9, .int .i64 a, .int .i64 b, .int .i64 d] := Blk.new rfl
    generalize w.alloc (.cells #[.int .i64 9, .int .i64 a, .int .i64 b, .int .i64 d] 37) = W at hX k3 ⊢
    have c3 := k3.cell
    have l3 := k3.lt
    have hz := hX.size_le
    replace h := h.ext hX
    have h' := h
    obtain ⟨vA, vB, vC, ps, kO, hG, _⟩ := h'
    have cO := kO.cell
    have lO := kO.lt
    have hgr := hG.rd
    go_upto_region 16 with fail
    refine wp_region_ext [(true, 0), (true, 1), (true, 2), (true, 3), (true, 4), (false, 5), (true, 6), (true, 7), (true, 8), (true, 9), (true, 10)] Try.mixed (by kernel_rfl) (by simp only [pick, List.filterMap_cons, List.filterMap_nil, List.getElem?_toArray, List.getElem?_cons_succ, List.getElem?_cons_zero, Option.map_some]; rfl) ?_
    intro hx
    repeat (first
      | (refine wpL_take hx (v := ?_) (by rfl) (fun _ hc => ?_) ?_
         rotate_left
         focus (go_simp; (try go_ints); exact rfl)
         simp only [Act.put, List.setIfInBounds_toArray, List.set_cons_zero, List.set_cons_succ])
      | (refine wpL_skip (by rfl) ?_; simp only [Act.put, List.setIfInBounds_toArray, List.set_cons_zero, List.set_cons_succ])
      | (refine wpL_call (by rfl) (fun K hK => ?_); go_simp; go_at_call 42; refine (object42_any _ g a _ (hgr.ext (by (repeat (first | (with_reducible exact Ext.refl _) | assumption | (with_reducible refine Ext.alloc ?_ _) | (with_reducible refine Ext.drew ?_) | (with_reducible refine Ext.drewL ?_) | refine Ext.trans ?_ (by assumption))))) hv).mono ?_; rintro e w1 ⟨rfl, hE⟩; refine hK _ _ (hE) ?_; clear hK; intro hr; replace hx := hx.trans hr; clear hr; simp only [Act.put, List.setIfInBounds_toArray, List.set_cons_zero, List.set_cons_succ])
      | (refine wpL_call (by rfl) (fun K hK => ?_); go_simp; (first | (refine hK _ _ ?_ ?_; (focus ((repeat (first | (with_reducible exact Ext.refl _) | assumption | (with_reducible refine Ext.alloc ?_ _) | (with_reducible refine Ext.drew ?_) | (with_reducible refine Ext.drewL ?_) | refine Ext.trans ?_ (by assumption))); done))) | (refine hK undef _ ?_ ?_; (focus ((repeat (first | (with_reducible exact Ext.refl _) | assumption | (with_reducible refine Ext.alloc ?_ _) | (with_reducible refine Ext.drew ?_) | (with_reducible refine Ext.drewL ?_) | refine Ext.trans ?_ (by assumption))); done)))); clear hK; intro hr; replace hx := hx.trans hr; clear hr; try simp only [Act.put, List.setIfInBounds_toArray, List.set_cons_zero, List.set_cons_succ]))
    refine wpL_end ?_
    go_wp2
    go_ret2
    exact ⟨rfl, (h.ext (by (repeat (first | (with_reducible exact Ext.refl _) | assumption | (with_reducible refine Ext.alloc ?_ _) | (with_reducible refine Ext.drew ?_) | (with_reducible refine Ext.drewL ?_) | refine Ext.trans ?_ (by assumption))))).top (Nat.le_refl _), (Fr.of_ext hX).ext (by (repeat (first | (with_reducible exact Ext.refl _) | assumption | (with_reducible refine Ext.alloc ?_ _) | (with_reducible refine Ext.drew ?_) | (with_reducible refine Ext.drewL ?_) | refine Ext.trans ?_ (by assumption))))⟩
set_option maxRecDepth 100000 in
set_option maxHeartbeats 1000000 in
theorem do29_6 (base M o : Nat) (g : Gr) (a b d : Int) (w : World) (h : GSt base M o w g) (hv : Vld g) (hMw : M ≤ w.heap.size) :
    Calls Try.prog 29 #[.pointer (some ⟨o, 0, none⟩), .agg #[.int .i64 6, .int .i64 a, .int .i64 b, .int .i64 d]] w (DoR base M o w (doT g 6 a b d)) := by
  obtain ⟨y, hy⟩ : ∃ y, doT g 6 a b d = y := ⟨_, rfl⟩
  have HA := fun W h => equal41_any base M o g a b d W h hv
  rw [hy] at HA ⊢
  clear hy
  go_enter Try.func29, Try.ntmps29
  go_upto_region 1 with fail
  have hX := Ext.alloc (Ext.refl w) (.cells #[.int .i64 6, .int .i64 a, .int .i64 b, .int .i64 d] 37)
  have k3 : Blk (w.alloc (.cells #[.int .i64 6, .int .i64 a, .int .i64 b, .int .i64 d] 37)) w.heap.size 37 #[.int .i64 6, .int .i64 a, .int .i64 b, .int .i64 d] := Blk.new rfl
  generalize w.alloc (.cells #[.int .i64 6, .int .i64 a, .int .i64 b, .int .i64 d] 37) = W at hX k3 ⊢
  have c3 := k3.cell
  have l3 := k3.lt
  have hz := hX.size_le
  replace h := h.ext hX
  have h' := h
  obtain ⟨vA, vB, vC, ps, kO, hG, _⟩ := h'
  have cO := kO.cell
  have lO := kO.lt
  have hgr := hG.rd
  go_wp2_with (go_at_call 41; refine (HA _ h).mono ?_; rintro e w1 ⟨hr, hG1, hF1⟩; rw [hr])
  go_ret2
  exact ⟨rfl, hG1.top (Nat.le_refl _), (Fr.of_ext hX).trans hF1⟩
set_option maxRecDepth 100000 in
set_option maxHeartbeats 1000000 in
theorem do29_8 (base M o : Nat) (g : Gr) (a b d : Int) (w : World) (h : GSt base M o w g) (hMw : M ≤ w.heap.size) :
    Calls Try.prog 29 #[.pointer (some ⟨o, 0, none⟩), .agg #[.int .i64 8, .int .i64 a, .int .i64 b, .int .i64 d]] w (DoR base M o w (g, 0, 0)) := by
  go_enter Try.func29, Try.ntmps29
  go_upto_region 1 with fail
  have hX := Ext.alloc (Ext.refl w) (.cells #[.int .i64 8, .int .i64 a, .int .i64 b, .int .i64 d] 37)
  have k3 : Blk (w.alloc (.cells #[.int .i64 8, .int .i64 a, .int .i64 b, .int .i64 d] 37)) w.heap.size 37 #[.int .i64 8, .int .i64 a, .int .i64 b, .int .i64 d] := Blk.new rfl
  generalize w.alloc (.cells #[.int .i64 8, .int .i64 a, .int .i64 b, .int .i64 d] 37) = W at hX k3 ⊢
  have c3 := k3.cell
  have l3 := k3.lt
  have hz := hX.size_le
  replace h := h.ext hX
  have h' := h
  obtain ⟨vA, vB, vC, ps, kO, hG, _⟩ := h'
  have cO := kO.cell
  have lO := kO.lt
  have hgr := hG.rd
  go_wp2
  go_ret2
  exact ⟨rfl, h.top (Nat.le_refl _), Fr.of_ext hX⟩
set_option maxRecDepth 100000 in
set_option maxHeartbeats 1000000 in
theorem do29_10 (base M o : Nat) (g : Gr) (a b d : Int) (w : World) (h : GSt base M o w g) (hv : Vld g) (hn : g.ns.length ≤ 1000) (hMw : M ≤ w.heap.size) :
    Calls Try.prog 29 #[.pointer (some ⟨o, 0, none⟩), .agg #[.int .i64 10, .int .i64 a, .int .i64 b, .int .i64 d]] w (DoR base M o w (g, 0, (liveT g : Int))) := by
  have hb := hv.bd hn
  have hll := liveT_le hb
  go_enter Try.func29, Try.ntmps29
  go_upto_region 1 with fail
  have hX := Ext.alloc (Ext.refl w) (.cells #[.int .i64 10, .int .i64 a, .int .i64 b, .int .i64 d] 37)
  have k3 : Blk (w.alloc (.cells #[.int .i64 10, .int .i64 a, .int .i64 b, .int .i64 d] 37)) w.heap.size 37 #[.int .i64 10, .int .i64 a, .int .i64 b, .int .i64 d] := Blk.new rfl
  generalize w.alloc (.cells #[.int .i64 10, .int .i64 a, .int .i64 b, .int .i64 d] 37) = W at hX k3 ⊢
  have c3 := k3.cell
  have l3 := k3.lt
  have hz := hX.size_le
  replace h := h.ext hX
  have h' := h
  obtain ⟨vA, vB, vC, ps, kO, hG, _⟩ := h'
  have cO := kO.cell
  have lO := kO.lt
  have hgr := hG.rd
  go_wp2_with (go_at_call 18; refine (live18_any _ g _ hgr hv hb).mono ?_; rintro e w1 ⟨rfl, hE⟩)
  go_ret2
  exact ⟨rfl, (h.ext hE).top (Nat.le_refl _), (Fr.of_ext hX).ext hE⟩
set_option maxRecDepth 100000 in
set_option maxHeartbeats 1000000 in
theorem do29_bad (base M o : Nat) (g : Gr) (c a b d : Int) (w : World) (h : GSt base M o w g) (hMw : M ≤ w.heap.size) (hc : ¬ (1 ≤ c ∧ c ≤ 10)) :
    Calls Try.prog 29 #[.pointer (some ⟨o, 0, none⟩), .agg #[.int .i64 c, .int .i64 a, .int .i64 b, .int .i64 d]] w (DoR base M o w (g, 20, 0)) := by
  have n1 : (c == 1) = false := by simp; omega
  have n2 : (c == 2) = false := by simp; omega
  have n3 : (c == 3) = false := by simp; omega
  have n4 : (c == 4) = false := by simp; omega
  have n5 : (c == 5) = false := by simp; omega
  have n6 : (c == 6) = false := by simp; omega
  have n7 : (c == 7) = false := by simp; omega
  have n8 : (c == 8) = false := by simp; omega
  have n9 : (c == 9) = false := by simp; omega
  have n10 : (c == 10) = false := by simp; omega
  go_enter Try.func29, Try.ntmps29
  go_upto_region 1 with fail
  have hX := Ext.alloc (Ext.refl w) (.cells #[.int .i64 c, .int .i64 a, .int .i64 b, .int .i64 d] 37)
  have k3 : Blk (w.alloc (.cells #[.int .i64 c, .int .i64 a, .int .i64 b, .int .i64 d] 37)) w.heap.size 37 #[.int .i64 c, .int .i64 a, .int .i64 b, .int .i64 d] := Blk.new rfl
  generalize w.alloc (.cells #[.int .i64 c, .int .i64 a, .int .i64 b, .int .i64 d] 37) = W at hX k3 ⊢
  have c3 := k3.cell
  have l3 := k3.lt
  have hz := hX.size_le
  replace h := h.ext hX
  have h' := h
  obtain ⟨vA, vB, vC, ps, kO, hG, _⟩ := h'
  have cO := kO.cell
  have lO := kO.lt
  have hgr := hG.rd
  go_wp2
  go_ret2
  exact ⟨rfl, h.top (Nat.le_refl _), Fr.of_ext hX⟩
theorem doOk_all {g : Gr} (hv : Vld g) (hn : g.ns.length ≤ 1000) (c a b d : Int) : DoOk g c a b d := by
  intro base M o W h hM
  by_cases h1 : c = 1
  · subst h1; exact do29_1 base M o g a b d W h hv hn hM
  by_cases h8 : c = 8
  · subst h8
    have ht : doT g 8 a b d = (g, 0, 0) := by simp [doT]
    rw [ht]
    exact do29_8 base M o g a b d W h hM
  by_cases h10 : c = 10
  · subst h10
    have ht : doT g 10 a b d = (g, 0, (liveT g : Int)) := by simp [doT]
    rw [ht]
    exact do29_10 base M o g a b d W h hv hn hM
  by_cases h6 : c = 6
  · subst h6; exact do29_6 base M o g a b d W h hv hM
  by_cases h2 : c = 2
  · subst h2; exact do29a_2 base M o g a b d W h hv hM
  by_cases h3 : c = 3
  · subst h3; exact do29a_3 base M o g a b d W h hv hM
  by_cases h4 : c = 4
  · subst h4; exact do29a_4 base M o g a b d W h hv hM
  by_cases h5 : c = 5
  · subst h5; exact do29a_5 base M o g a b d W h hv hM
  by_cases h7 : c = 7
  · subst h7; exact do29_7 base M o g a b d W h hv hM
  by_cases h9 : c = 9
  · subst h9; exact do29a_9 base M o g a b d W h hv hM
  have ht : doT g c a b d = (g, 20, 0) := by unfold doT; rw [if_neg h1, if_neg h8, if_neg h10, if_neg h6, if_neg (by omega)]
  rw [ht]
  exact do29_bad base M o g c a b d W h hM (by omega)
theorem do10_any (v : Value) (g : Gr) (c a b d : Int) (w : World) {S : List Nat} (hSb : ∀ x ∈ S, x < w.heap.size) (hg0 : GRx S w v g) (hv : Vld g) (hn : g.ns.length ≤ 1000) :
    Calls Try.prog 10 #[v, .agg #[.int .i64 c, .int .i64 a, .int .i64 b, .int .i64 d]] w (RetDo S w (doT g c a b d)) := do10_of v g c a b d w hSb hg0 hv hn (doOk_all hv hn c a b d)
end Go.Proofs.Ytamghjilcfeheaa
