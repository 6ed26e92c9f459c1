/- The walks of the model's do where it allocates and drops. Conditions: the ranges that each theorem states. -/
import Derived.Test.YtamghjilcfeheaaBC
import Derived.Test.YtamghjilcfeheaaBD
namespace Go.Proofs.Ytamghjilcfeheaa
open Go.RowKit Go.Draw

/-- what do answers -/
def DoR (base M o : Nat) (w : World) (y : Gr × Int × Int) (r : Ending) (w' : World) : Prop := r = .returned (.tuple #[.int .u64 y.2.2, .int .i64 y.2.1]) ∧ GSt base w'.heap.size o w' y.1 ∧ Fr base M w w'
theorem alloc40_any (base M o : Nat) (g : Gr) (c a b d : Int) (w : World) (h : GSt base M o w g) (hv : Vld g) (hn : g.ns.length ≤ 1000) (hMw : M ≤ w.heap.size) :
    Calls Try.prog 40 #[.pointer (some ⟨o, 0, none⟩), .agg #[.int .i64 c, .int .i64 a, .int .i64 b, .int .i64 d]] w (DoR base M o w (doT g 1 a b d)) := by
  by_cases hs : a < 0 ∨ 15 < a ∨ b < 0 ∨ 32 < b
  · have ht : doT g 1 a b d = (g, 13, 0) := by simp [doT, hs]
    rw [ht]
    exact (alloc40_size base M o g c a b d w h hs).mono fun e w' hr => ⟨hr.1, (h.ext hr.2).top (Nat.le_refl _), Fr.of_ext hr.2⟩
  · obtain ⟨p, rfl⟩ : ∃ p : Nat, a = p := ⟨a.toNat, by omega⟩
    obtain ⟨q, rfl⟩ : ∃ q : Nat, b = q := ⟨b.toNat, by omega⟩
    by_cases hf : freeT g.us < 32
    · have ht : doT g 1 p q d = (⟨g.ns ++ [(List.replicate p (-1), List.replicate q 0)], g.us.set (freeT g.us) true, g.rs.set (freeT g.us) g.ns.length⟩, 0, (freeT g.us : Int) + 1) := by simp only [doT, if_true]; rw [if_neg hs, if_pos hf]; simp
      rw [ht]
      exact alloc40_some base M o (freeT g.us) g p q c d w h (by omega) (by omega) hv.lu hv.lr hn rfl hf hMw
    · have ht : doT g 1 p q d = (g, 15, 0) := by simp only [doT, if_true]; rw [if_neg hs, if_neg hf]
      rw [ht]
      exact (alloc40_full base M o g p q c d w h (by omega) (by omega) hv.lu hf).mono fun e w' hr => ⟨hr.1, (h.ext hr.2).top (Nat.le_refl _), Fr.of_ext hr.2⟩
set_option maxRecDepth 100000 in
set_option maxHeartbeats 1000000 in
theorem do29_1 (base M o : Nat) (g : Gr) (a b d : Int) (w : World) (h : GSt base M o w g) (hv : Vld g) (hn : g.ns.length ≤ 1000) (hMw : M ≤ w.heap.size) :
    Calls Try.prog 29 #[.pointer (some ⟨o, 0, none⟩), .agg #[.int .i64 1, .int .i64 a, .int .i64 b, .int .i64 d]] w (DoR base M o w (doT g 1 a b d)) := by
  go_enter Try.func29, Try.ntmps29
  go_upto_region 1 with fail
  have hX := Ext.alloc (Ext.refl w) (.cells #[.int .i64 1, .int .i64 a, .int .i64 b, .int .i64 d] 37)
  have k3 : Blk (w.alloc (.cells #[.int .i64 1, .int .i64 a, .int .i64 b, .int .i64 d] 37)) w.heap.size 37 #[.int .i64 1, .int .i64 a, .int .i64 b, .int .i64 d] := Blk.new rfl
  generalize w.alloc (.cells #[.int .i64 1, .int .i64 a, .int .i64 b, .int .i64 d] 37) = W at hX k3 ⊢
  have c3 := k3.cell
  have hz := hX.size_le
  replace h := h.ext hX
  go_wp2_with (first | (go_at_call 40; refine (alloc40_any base M o g 1 a b d _ (h.ext (by (repeat (first | (with_reducible exact Ext.refl _) | assumption | (with_reducible refine Ext.alloc ?_ _) | (with_reducible refine Ext.drew ?_) | (with_reducible refine Ext.drewL ?_) | refine Ext.trans ?_ (by assumption))))) hv hn (by (first | omega | (simp; done) | (simp; omega)))).mono ?_; rintro e w1 ⟨hr, hG1, hF1⟩; rw [hr]))
  go_ret2
  exact ⟨rfl, hG1, (Fr.of_ext hX).trans hF1⟩

set_option maxRecDepth 100000 in
set_option maxHeartbeats 1000000 in
theorem do29_7 (base M o : Nat) (g : Gr) (a b d : Int) (w : World) (h : GSt base M o w g) (hv : Vld g) (hMw : M ≤ w.heap.size) :
    Calls Try.prog 29 #[.pointer (some ⟨o, 0, none⟩), .agg #[.int .i64 7, .int .i64 a, .int .i64 b, .int .i64 d]] w (DoR base M o w (doT g 7 a b d)) := by
  by_cases he : hErr g a true = 0
  · have ht : doT g 7 a b d = accT g (hNd g a).toNat 7 a b d := by unfold doT; simp [he]
    rcases hErr_ok hv.lu he with ⟨_, h0⟩ | ⟨i, rfl, hi, hu⟩
    · cases h0
    obtain ⟨m, x, _, hr, hxm⟩ := hv.at_ hu
    have hN := hNd_in g i _ hr
    have hob : objN g ((i : Int) + 1) = m := by unfold objN; rw [if_pos he, hN]
    have ha : accT g m 7 ((i : Int) + 1) b d = (⟨g.ns, g.us.set i false, g.rs.set i (-1)⟩, 0, 0) := by simp [accT]
    rw [ht, hN, Int.toNat_natCast, ha]
    clear ht hN ha hu hr
    go_enter Try.func29, Try.ntmps29
    go_upto_region 1 with fail
    have hX := Ext.alloc (Ext.refl w) (.cells #[.int .i64 7, .int .i64 ((i : Int) + 1), .int .i64 b, .int .i64 d] 37)
    have k3 : Blk (w.alloc (.cells #[.int .i64 7, .int .i64 ((i : Int) + 1), .int .i64 b, .int .i64 d] 37)) w.heap.size 37 #[.int .i64 7, .int .i64 ((i : Int) + 1), .int .i64 b, .int .i64 d] := Blk.new rfl
    generalize w.alloc (.cells #[.int .i64 7, .int .i64 ((i : Int) + 1), .int .i64 b, .int .i64 d] 37) = W at hX k3 ⊢
    have c3 := k3.cell
    have l3 := k3.lt
    have hz := hX.size_le
    replace h := h.ext hX
    have h' := h
    obtain ⟨vA, vB, vC, ps, kO, hG, _⟩ := h'
    have cO := kO.cell
    have lO := kO.lt
    have hgr := hG.rd
    go_upto_region 16 with fail
    refine wp_region_ext [(true, 0), (true, 1), (true, 2), (true, 3), (true, 4), (false, 5), (true, 6), (true, 7), (true, 8), (true, 9), (true, 10)] Try.mixed (by kernel_rfl) (by simp only [pick, List.filterMap_cons, List.filterMap_nil, List.getElem?_toArray, List.getElem?_cons_succ, List.getElem?_cons_zero, Option.map_some]; rfl) ?_
    intro hx
    repeat (first
      | (refine wpL_take hx (v := ?_) (by rfl) (fun _ hc => ?_) ?_
         rotate_left
         focus (go_simp; (try go_ints); exact rfl)
         simp only [Act.put, List.setIfInBounds_toArray, List.set_cons_zero, List.set_cons_succ])
      | (refine wpL_skip (by rfl) ?_; simp only [Act.put, List.setIfInBounds_toArray, List.set_cons_zero, List.set_cons_succ])
      | (refine wpL_call (by rfl) (fun K hK => ?_); go_simp; go_at_call 42; refine (object42_any _ g ((i : Int) + 1) _ (hgr.ext (by (repeat (first | (with_reducible exact Ext.refl _) | assumption | (with_reducible refine Ext.alloc ?_ _) | (with_reducible refine Ext.drew ?_) | (with_reducible refine Ext.drewL ?_) | refine Ext.trans ?_ (by assumption))))) hv).mono ?_; rintro e w1 ⟨rfl, hE⟩; rw [hob, he]; refine hK _ _ (hE) ?_; clear hK; intro hr; replace hx := hx.trans hr; clear hr; simp only [Act.put, List.setIfInBounds_toArray, List.set_cons_zero, List.set_cons_succ])
      | (refine wpL_call (by rfl) (fun K hK => ?_); go_simp; (first | (refine hK _ _ ?_ ?_; (focus ((repeat (first | (with_reducible exact Ext.refl _) | assumption | (with_reducible refine Ext.alloc ?_ _) | (with_reducible refine Ext.drew ?_) | (with_reducible refine Ext.drewL ?_) | refine Ext.trans ?_ (by assumption))); done))) | (refine hK undef _ ?_ ?_; (focus ((repeat (first | (with_reducible exact Ext.refl _) | assumption | (with_reducible refine Ext.alloc ?_ _) | (with_reducible refine Ext.drew ?_) | (with_reducible refine Ext.drewL ?_) | refine Ext.trans ?_ (by assumption))); done)))); clear hK; intro hr; replace hx := hx.trans hr; clear hr; try simp only [Act.put, List.setIfInBounds_toArray, List.set_cons_zero, List.set_cons_succ]))
    refine wpL_end ?_
    have hz1 : W.heap.size ≤ w1.heap.size := hE.size_le
    have c3' := (Blk.ext k3.drew hE).cell
    go_wp2_with (first | (go_at_call 43; refine (acc43_7 base M o i m g x b d _ (h.ext (by (repeat (first | (with_reducible exact Ext.refl _) | assumption | (with_reducible refine Ext.alloc ?_ _) | (with_reducible refine Ext.drew ?_) | (with_reducible refine Ext.drewL ?_) | refine Ext.trans ?_ (by assumption))))) hv (by (first | omega | (simp; done) | (simp; omega))) hi hxm).mono ?_; rintro e w1 ⟨hr, hG1, hF1⟩; rw [hr]))
    go_ret2
    exact ⟨rfl, hG1.top (Nat.le_refl _), ((Fr.of_ext hX).ext (by (repeat (first | (with_reducible exact Ext.refl _) | assumption | (with_reducible refine Ext.alloc ?_ _) | (with_reducible refine Ext.drew ?_) | (with_reducible refine Ext.drewL ?_) | refine Ext.trans ?_ (by assumption))))).trans hF1⟩
  · have ht : doT g 7 a b d = (g, hErr g a true, 0) := by unfold doT; simp [he]
    have he2 : (hErr g a true != 0) = true := by simpa using he
    rw [ht]
    clear ht he
    go_enter Try.func29, Try.ntmps29
    go_upto_region 1 with fail
    have hX := Ext.alloc (Ext.refl w) (.cells #[.int .i64 7, .int .i64 a, .int .i64 b, .int .i64 d] 37)
    have k3 : Blk (w.alloc (.cells #[.int .i64 7, .int .i64 a, .int .i64 b, .int .i64 d] 37)) w.heap.size 37 #[.int .i64 7, .int .i64 a, .int .i64 b, .int .i64 d] := Blk.new rfl
    generalize w.alloc (.cells #[.int .i64 7, .int .i64 a, .int .i64 b, .int .i64 d] 37) = W at hX k3 ⊢
    have c3 := k3.cell
    have l3 := k3.lt
    have hz := hX.size_le
    replace h := h.ext hX
    have h' := h
    obtain ⟨vA, vB, vC, ps, kO, hG, _⟩ := h'
    have cO := kO.cell
    have lO := kO.lt
    have hgr := hG.rd
    go_upto_region 16 with fail
    refine wp_region_ext [(true, 0), (true, 1), (true, 2), (true, 3), (true, 4), (false, 5), (true, 6), (true, 7), (true, 8), (true, 9), (true, 10)] Try.mixed (by kernel_rfl) (by simp only [pick, List.filterMap_cons, List.filterMap_nil, List.getElem?_toArray, List.getElem?_cons_succ, List.getElem?_cons_zero, Option.map_some]; rfl) ?_
    intro hx
    repeat (first
      | (refine wpL_take hx (v := ?_) (by rfl) (fun _ hc => ?_) ?_
         rotate_left
         focus (go_simp; (try go_ints); exact rfl)
         simp only [Act.put, List.setIfInBounds_toArray, List.set_cons_zero, List.set_cons_succ])
      | (refine wpL_skip (by rfl) ?_; simp only [Act.put, List.setIfInBounds_toArray, List.set_cons_zero, List.set_cons_succ])
      | (refine wpL_call (by rfl) (fun K hK => ?_); go_simp; go_at_call 42; refine (object42_any _ g a _ (hgr.ext (by (repeat (first | (with_reducible exact Ext.refl _) | assumption | (with_reducible refine Ext.alloc ?_ _) | (with_reducible refine Ext.drew ?_) | (with_reducible refine Ext.drewL ?_) | refine Ext.trans ?_ (by assumption))))) hv).mono ?_; rintro e w1 ⟨rfl, hE⟩; refine hK _ _ (hE) ?_; clear hK; intro hr; replace hx := hx.trans hr; clear hr; simp only [Act.put, List.setIfInBounds_toArray, List.set_cons_zero, List.set_cons_succ])
      | (refine wpL_call (by rfl) (fun K hK => ?_); go_simp; (first | (refine hK _ _ ?_ ?_; (focus ((repeat (first | (with_reducible exact Ext.refl _) | assumption | (with_reducible refine Ext.alloc ?_ _) | (with_reducible refine Ext.drew ?_) | (with_reducible refine Ext.drewL ?_) | refine Ext.trans ?_ (by assumption))); done))) | (refine hK undef _ ?_ ?_; (focus ((repeat (first | (with_reducible exact Ext.refl _) | assumption | (with_reducible refine Ext.alloc ?_ _) | (with_reducible refine Ext.drew ?_) | (with_reducible refine Ext.drewL ?_) | refine Ext.trans ?_ (by assumption))); done)))); clear hK; intro hr; replace hx := hx.trans hr; clear hr; try simp only [Act.put, List.setIfInBounds_toArray, List.set_cons_zero, List.set_cons_succ]))
    refine wpL_end ?_
    go_wp2
    go_ret2
    exact ⟨rfl, (h.ext (by (repeat (first | (with_reducible exact Ext.refl _) | assumption | (with_reducible refine Ext.alloc ?_ _) | (with_reducible refine Ext.drew ?_) | (with_reducible refine Ext.drewL ?_) | refine Ext.trans ?_ (by assumption))))).top (Nat.le_refl _), (Fr.of_ext hX).ext (by (repeat (first | (with_reducible exact Ext.refl _) | assumption | (with_reducible refine Ext.alloc ?_ _) | (with_reducible refine Ext.drew ?_) | (with_reducible refine Ext.drewL ?_) | refine Ext.trans ?_ (by assumption))))⟩
end Go.Proofs.Ytamghjilcfeheaa
