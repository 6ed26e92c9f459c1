/- The walks of the model's access: shapes, and what lies outside. Conditions: the ranges that each theorem states. The walks of the model's access to data. Conditions: the ranges that each theorem states. The walks of the model's access to references. Conditions: the ranges that each theorem states. -/
import Derived.Test.YtamghjilcfeheaaBD
namespace Go.Proofs.Ytamghjilcfeheaa
open Go.RowKit Go.Draw

set_option maxRecDepth 100000 in
set_option maxHeartbeats 1000000 in
theorem acc43_9 (base M o m : Nat) (g : Gr) (x : List Int × List Int) (a b d : Int) (w : World) (h : GSt base M o w g) (hv : Vld g) (hMw : M ≤ w.heap.size) (hx : g.ns[m]? = some x) :
    Calls Try.prog 43 #[.pointer (some ⟨o, 0, none⟩), .int .i64 m, .agg #[.int .i64 9, .int .i64 a, .int .i64 b, .int .i64 d]] w (AccR base M o w (g, 0, 256 * (x.1.length : Int) + x.2.length)) := by
  have hh := h
  have hnd := hv.nd m x hx
  have n1 := hnd.1
  have n2 := hnd.2.1
  clear hnd
  obtain ⟨vA, vB, vC, ps, kO, hG, hM, hbo⟩ := h
  have hm := (List.getElem?_eq_some_iff.1 hx).1
  obtain ⟨bA, a1, rfl⟩ := own_at hG.nodes (by omega)
  obtain ⟨B1, b1, rfl⟩ := own_slice hG.used
  obtain ⟨C1, c1, rfl⟩ := own_slice hG.roots
  have hlen := hG.len
  obtain ⟨pp, hp⟩ : ∃ pp, ps[m]? = some pp := ⟨_, List.getElem?_eq_getElem (by omega)⟩
  obtain ⟨o1, o2⟩ := hG.each m pp x hp hx
  obtain ⟨p1, p2⟩ := pp
  obtain ⟨R, cR, hR⟩ := own_slice o1
  obtain ⟨D, cD, hD⟩ := own_slice o2
  simp only at hR hD
  subst hR
  subst hD
  obtain ⟨cA, fA⟩ := own_cells hG.nodes
  have qR := cA _ _ (vals_at ps m _ hp).1
  have qD := cA _ _ (vals_at ps m _ hp).2
  simp only at qR qD
  have Hp := Lib.hid hp
  have Hx := Lib.hid hx
  have mb : (m : Int) < g.ns.length := by omega
  go_enter Try.func43, Try.ntmps43
  go_upto_region 1 with fail
  have hX := Ext.alloc (Ext.refl w) (.cells #[.int .i64 9, .int .i64 a, .int .i64 b, .int .i64 d] 37)
  have k5 : Blk (w.alloc (.cells #[.int .i64 9, .int .i64 a, .int .i64 b, .int .i64 d] 37)) w.heap.size 37 #[.int .i64 9, .int .i64 a, .int .i64 b, .int .i64 d] := Blk.new rfl
  generalize w.alloc (.cells #[.int .i64 9, .int .i64 a, .int .i64 b, .int .i64 d] 37) = W at hX k5 ⊢
  have KO := kO.ext hX
  have HG := hG.ext hX
  have cO := KO.cell
  have c5 := k5.cell
  have l5 := k5.lt
  have lO := kO.lt
  replace qR := cell_ext hX qR
  replace qD := cell_ext hX qD
  have lA := cell_lt qR
  clear hp hx cA fA hlen
  refine wp_region_ext [(true, 0), (true, 1), (true, 2), (true, 3), (true, 4), (true, 5), (true, 6), (true, 7), (true, 8), (true, 9), (true, 10), (true, 11), (true, 12), (true, 13), (true, 14), (true, 15), (true, 16), (true, 17)] Try.mixed (by kernel_rfl) (by simp only [pick, List.filterMap_cons, List.filterMap_nil, List.getElem?_toArray, List.getElem?_cons_succ, List.getElem?_cons_zero, Option.map_some]; rfl) ?_
  intro hx
  repeat (first
    | (refine wpL_take hx (v := ?_) (by rfl) (fun _ hc => ?_) ?_
       rotate_left
       focus (go_simp; (try go_ints); exact rfl)
       simp only [Act.put, List.setIfInBounds_toArray, List.set_cons_zero, List.set_cons_succ])
    | (refine wpL_skip (by rfl) ?_; simp only [Act.put, List.setIfInBounds_toArray, List.set_cons_zero, List.set_cons_succ])
    | (refine wpL_call (by rfl) (fun K hK => ?_); go_simp; (first | (refine hK _ _ ?_ ?_; (focus ((repeat (first | (with_reducible exact Ext.refl _) | assumption | (with_reducible refine Ext.alloc ?_ _) | (with_reducible refine Ext.drew ?_) | (with_reducible refine Ext.drewL ?_) | refine Ext.trans ?_ (by assumption))); done))) | (refine hK undef _ ?_ ?_; (focus ((repeat (first | (with_reducible exact Ext.refl _) | assumption | (with_reducible refine Ext.alloc ?_ _) | (with_reducible refine Ext.drew ?_) | (with_reducible refine Ext.drewL ?_) | refine Ext.trans ?_ (by assumption))); done)))); clear hK; intro hr; replace hx := hx.trans hr; clear hr; try simp only [Act.put, List.setIfInBounds_toArray, List.set_cons_zero, List.set_cons_succ]))
  refine wpL_end ?_
  go_wp2_with fail
  go_wp2
  go_ret2
  exact ⟨rfl, hh.ext (Ext.drew hX), Fr.of_ext (Ext.drew hX)⟩
set_option maxRecDepth 100000 in
set_option maxHeartbeats 1000000 in
theorem acc43_out2 (base M o m : Nat) (g : Gr) (x : List Int × List Int) (a b d : Int) (w : World) (h : GSt base M o w g) (hv : Vld g) (hMw : M ≤ w.heap.size) (hx : g.ns[m]? = some x) (hk : b < 0 ∨ (x.1.length : Int) ≤ b) :
    Calls Try.prog 43 #[.pointer (some ⟨o, 0, none⟩), .int .i64 m, .agg #[.int .i64 2, .int .i64 a, .int .i64 b, .int .i64 d]] w (AccR base M o w (g, 17, 0)) := by
  have hh := h
  have hH : ∃ x1 x2 : Bool, decide (b < 0) = x1 ∧ decide ((x.1.length : Int) ≤ b) = x2 ∧ (x1 || x2) = true := ⟨_, _, rfl, rfl, by simpa using hk⟩
  clear hk
  obtain ⟨x1, x2, t1, t2, t3⟩ := hH
  cases x1 <;> cases x2 <;> simp only [Bool.or_true, Bool.or_false, Bool.true_or, Bool.false_or, Bool.false_eq_true] at t3
  all_goals
    obtain ⟨vA, vB, vC, ps, kO, hG, hM, hbo⟩ := h
    have hm := (List.getElem?_eq_some_iff.1 hx).1
    obtain ⟨bA, a1, rfl⟩ := own_at hG.nodes (by omega)
    obtain ⟨B1, b1, rfl⟩ := own_slice hG.used
    obtain ⟨C1, c1, rfl⟩ := own_slice hG.roots
    have hlen := hG.len
    obtain ⟨pp, hp⟩ : ∃ pp, ps[m]? = some pp := ⟨_, List.getElem?_eq_getElem (by omega)⟩
    obtain ⟨o1, o2⟩ := hG.each m pp x hp hx
    obtain ⟨p1, p2⟩ := pp
    obtain ⟨R, cR, hR⟩ := own_slice o1
    obtain ⟨D, cD, hD⟩ := own_slice o2
    simp only at hR hD
    subst hR
    subst hD
    obtain ⟨cA, fA⟩ := own_cells hG.nodes
    have qR := cA _ _ (vals_at ps m _ hp).1
    have qD := cA _ _ (vals_at ps m _ hp).2
    simp only at qR qD
    have Hp := Lib.hid hp
    have Hx := Lib.hid hx
    have mb : (m : Int) < g.ns.length := by omega
    go_enter Try.func43, Try.ntmps43
    go_upto_region 1 with fail
    have hX := Ext.alloc (Ext.refl w) (.cells #[.int .i64 2, .int .i64 a, .int .i64 b, .int .i64 d] 37)
    have k5 : Blk (w.alloc (.cells #[.int .i64 2, .int .i64 a, .int .i64 b, .int .i64 d] 37)) w.heap.size 37 #[.int .i64 2, .int .i64 a, .int .i64 b, .int .i64 d] := Blk.new rfl
    generalize w.alloc (.cells #[.int .i64 2, .int .i64 a, .int .i64 b, .int .i64 d] 37) = W at hX k5 ⊢
    have KO := kO.ext hX
    have HG := hG.ext hX
    have cO := KO.cell
    have c5 := k5.cell
    have l5 := k5.lt
    have lO := kO.lt
    replace qR := cell_ext hX qR
    replace qD := cell_ext hX qD
    have lA := cell_lt qR
    clear hp hx cA fA hlen
    refine wp_region_ext [(true, 0), (true, 1), (true, 2), (true, 3), (true, 4), (true, 5), (true, 6), (true, 7), (true, 8), (true, 9), (true, 10), (true, 11), (true, 12), (true, 13), (true, 14), (true, 15), (true, 16), (true, 17)] Try.mixed (by kernel_rfl) (by simp only [pick, List.filterMap_cons, List.filterMap_nil, List.getElem?_toArray, List.getElem?_cons_succ, List.getElem?_cons_zero, Option.map_some]; rfl) ?_
    intro hx
    repeat (first
      | (refine wpL_take hx (v := ?_) (by rfl) (fun _ hc => ?_) ?_
         rotate_left
         focus (go_simp; (try go_ints); exact rfl)
         simp only [Act.put, List.setIfInBounds_toArray, List.set_cons_zero, List.set_cons_succ])
      | (refine wpL_skip (by rfl) ?_; simp only [Act.put, List.setIfInBounds_toArray, List.set_cons_zero, List.set_cons_succ])
      | (refine wpL_call (by rfl) (fun K hK => ?_); go_simp; (first | (refine hK _ _ ?_ ?_; (focus ((repeat (first | (with_reducible exact Ext.refl _) | assumption | (with_reducible refine Ext.alloc ?_ _) | (with_reducible refine Ext.drew ?_) | (with_reducible refine Ext.drewL ?_) | refine Ext.trans ?_ (by assumption))); done))) | (refine hK undef _ ?_ ?_; (focus ((repeat (first | (with_reducible exact Ext.refl _) | assumption | (with_reducible refine Ext.alloc ?_ _) | (with_reducible refine Ext.drew ?_) | (with_reducible refine Ext.drewL ?_) | refine Ext.trans ?_ (by assumption))); done)))); clear hK; intro hr; replace hx := hx.trans hr; clear hr; try simp only [Act.put, List.setIfInBounds_toArray, List.set_cons_zero, List.set_cons_succ]))
    refine wpL_end ?_
    go_wp2_with fail
    go_wp2
    go_ret2
    exact ⟨rfl, hh.ext (Ext.drew hX), Fr.of_ext (Ext.drew hX)⟩
set_option maxRecDepth 100000 in
set_option maxHeartbeats 1000000 in
theorem acc43_out3 (base M o m : Nat) (g : Gr) (x : List Int × List Int) (a b d : Int) (w : World) (h : GSt base M o w g) (hv : Vld g) (hMw : M ≤ w.heap.size) (hx : g.ns[m]? = some x) (hk : b < 0 ∨ (x.1.length : Int) ≤ b) :
    Calls Try.prog 43 #[.pointer (some ⟨o, 0, none⟩), .int .i64 m, .agg #[.int .i64 3, .int .i64 a, .int .i64 b, .int .i64 d]] w (AccR base M o w (g, 17, 0)) := by
  have hh := h
  have hH : ∃ x1 x2 : Bool, decide (b < 0) = x1 ∧ decide ((x.1.length : Int) ≤ b) = x2 ∧ (x1 || x2) = true := ⟨_, _, rfl, rfl, by simpa using hk⟩
  clear hk
  obtain ⟨x1, x2, t1, t2, t3⟩ := hH
  cases x1 <;> cases x2 <;> simp only [Bool.or_true, Bool.or_false, Bool.true_or, Bool.false_or, Bool.false_eq_true] at t3
  all_goals
    obtain ⟨vA, vB, vC, ps, kO, hG, hM, hbo⟩ := h
    have hm := (List.getElem?_eq_some_iff.1 hx).1
    obtain ⟨bA, a1, rfl⟩ := own_at hG.nodes (by omega)
    obtain ⟨B1, b1, rfl⟩ := own_slice hG.used
    obtain ⟨C1, c1, rfl⟩ := own_slice hG.roots
    have hlen := hG.len
    obtain ⟨pp, hp⟩ : ∃ pp, ps[m]? = some pp := ⟨_, List.getElem?_eq_getElem (by omega)⟩
    obtain ⟨o1, o2⟩ := hG.each m pp x hp hx
    obtain ⟨p1, p2⟩ := pp
    obtain ⟨R, cR, hR⟩ := own_slice o1
    obtain ⟨D, cD, hD⟩ := own_slice o2
    simp only at hR hD
    subst hR
    subst hD
    obtain ⟨cA, fA⟩ := own_cells hG.nodes
    have qR := cA _ _ (vals_at ps m _ hp).1
    have qD := cA _ _ (vals_at ps m _ hp).2
    simp only at qR qD
    have Hp := Lib.hid hp
    have Hx := Lib.hid hx
    have mb : (m : Int) < g.ns.length := by omega
    go_enter Try.func43, Try.ntmps43
    go_upto_region 1 with fail
    have hX := Ext.alloc (Ext.refl w) (.cells #[.int .i64 3, .int .i64 a, .int .i64 b, .int .i64 d] 37)
    have k5 : Blk (w.alloc (.cells #[.int .i64 3, .int .i64 a, .int .i64 b, .int .i64 d] 37)) w.heap.size 37 #[.int .i64 3, .int .i64 a, .int .i64 b, .int .i64 d] := Blk.new rfl
    generalize w.alloc (.cells #[.int .i64 3, .int .i64 a, .int .i64 b, .int .i64 d] 37) = W at hX k5 ⊢
    have KO := kO.ext hX
    have HG := hG.ext hX
    have cO := KO.cell
    have c5 := k5.cell
    have l5 := k5.lt
    have lO := kO.lt
    replace qR := cell_ext hX qR
    replace qD := cell_ext hX qD
    have lA := cell_lt qR
    clear hp hx cA fA hlen
    refine wp_region_ext [(true, 0), (true, 1), (true, 2), (true, 3), (true, 4), (true, 5), (true, 6), (true, 7), (true, 8), (true, 9), (true, 10), (true, 11), (true, 12), (true, 13), (true, 14), (true, 15), (true, 16), (true, 17)] Try.mixed (by kernel_rfl) (by simp only [pick, List.filterMap_cons, List.filterMap_nil, List.getElem?_toArray, List.getElem?_cons_succ, List.getElem?_cons_zero, Option.map_some]; rfl) ?_
    intro hx
    repeat (first
      | (refine wpL_take hx (v := ?_) (by rfl) (fun _ hc => ?_) ?_
         rotate_left
         focus (go_simp; (try go_ints); exact rfl)
         simp only [Act.put, List.setIfInBounds_toArray, List.set_cons_zero, List.set_cons_succ])
      | (refine wpL_skip (by rfl) ?_; simp only [Act.put, List.setIfInBounds_toArray, List.set_cons_zero, List.set_cons_succ])
      | (refine wpL_call (by rfl) (fun K hK => ?_); go_simp; (first | (refine hK _ _ ?_ ?_; (focus ((repeat (first | (with_reducible exact Ext.refl _) | assumption | (with_reducible refine Ext.alloc ?_ _) | (with_reducible refine Ext.drew ?_) | (with_reducible refine Ext.drewL ?_) | refine Ext.trans ?_ (by assumption))); done))) | (refine hK undef _ ?_ ?_; (focus ((repeat (first | (with_reducible exact Ext.refl _) | assumption | (with_reducible refine Ext.alloc ?_ _) | (with_reducible refine Ext.drew ?_) | (with_reducible refine Ext.drewL ?_) | refine Ext.trans ?_ (by assumption))); done)))); clear hK; intro hr; replace hx := hx.trans hr; clear hr; try simp only [Act.put, List.setIfInBounds_toArray, List.set_cons_zero, List.set_cons_succ]))
    refine wpL_end ?_
    go_wp2_with fail
    go_wp2
    go_ret2
    exact ⟨rfl, hh.ext (Ext.drew hX), Fr.of_ext (Ext.drew hX)⟩
set_option maxRecDepth 100000 in
set_option maxHeartbeats 1000000 in
theorem acc43_out4 (base M o m : Nat) (g : Gr) (x : List Int × List Int) (a b d : Int) (w : World) (h : GSt base M o w g) (hv : Vld g) (hMw : M ≤ w.heap.size) (hx : g.ns[m]? = some x) (hk : b < 0 ∨ (x.2.length : Int) ≤ b) :
    Calls Try.prog 43 #[.pointer (some ⟨o, 0, none⟩), .int .i64 m, .agg #[.int .i64 4, .int .i64 a, .int .i64 b, .int .i64 d]] w (AccR base M o w (g, 17, 0)) := by
  have hh := h
  have hH : ∃ x1 x2 : Bool, decide (b < 0) = x1 ∧ decide ((x.2.length : Int) ≤ b) = x2 ∧ (x1 || x2) = true := ⟨_, _, rfl, rfl, by simpa using hk⟩
  clear hk
  obtain ⟨x1, x2, t1, t2, t3⟩ := hH
  cases x1 <;> cases x2 <;> simp only [Bool.or_true, Bool.or_false, Bool.true_or, Bool.false_or, Bool.false_eq_true] at t3
  all_goals
    obtain ⟨vA, vB, vC, ps, kO, hG, hM, hbo⟩ := h
    have hm := (List.getElem?_eq_some_iff.1 hx).1
    obtain ⟨bA, a1, rfl⟩ := own_at hG.nodes (by omega)
    obtain ⟨B1, b1, rfl⟩ := own_slice hG.used
    obtain ⟨C1, c1, rfl⟩ := own_slice hG.roots
    have hlen := hG.len
    obtain ⟨pp, hp⟩ : ∃ pp, ps[m]? = some pp := ⟨_, List.getElem?_eq_getElem (by omega)⟩
    obtain ⟨o1, o2⟩ := hG.each m pp x hp hx
    obtain ⟨p1, p2⟩ := pp
    obtain ⟨R, cR, hR⟩ := own_slice o1
    obtain ⟨D, cD, hD⟩ := own_slice o2
    simp only at hR hD
    subst hR
    subst hD
    obtain ⟨cA, fA⟩ := own_cells hG.nodes
    have qR := cA _ _ (vals_at ps m _ hp).1
    have qD := cA _ _ (vals_at ps m _ hp).2
    simp only at qR qD
    have Hp := Lib.hid hp
    have Hx := Lib.hid hx
    have mb : (m : Int) < g.ns.length := by omega
    go_enter Try.func43, Try.ntmps43
    go_upto_region 1 with fail
    have hX := Ext.alloc (Ext.refl w) (.cells #[.int .i64 4, .int .i64 a, .int .i64 b, .int .i64 d] 37)
    have k5 : Blk (w.alloc (.cells #[.int .i64 4, .int .i64 a, .int .i64 b, .int .i64 d] 37)) w.heap.size 37 #[.int .i64 4, .int .i64 a, .int .i64 b, .int .i64 d] := Blk.new rfl
    generalize w.alloc (.cells #[.int .i64 4, .int .i64 a, .int .i64 b, .int .i64 d] 37) = W at hX k5 ⊢
    have KO := kO.ext hX
    have HG := hG.ext hX
    have cO := KO.cell
    have c5 := k5.cell
    have l5 := k5.lt
    have lO := kO.lt
    replace qR := cell_ext hX qR
    replace qD := cell_ext hX qD
    have lA := cell_lt qR
    clear hp hx cA fA hlen
    refine wp_region_ext [(true, 0), (true, 1), (true, 2), (true, 3), (true, 4), (true, 5), (true, 6), (true, 7), (true, 8), (true, 9), (true, 10), (true, 11), (true, 12), (true, 13), (true, 14), (true, 15), (true, 16), (true, 17)] Try.mixed (by kernel_rfl) (by simp only [pick, List.filterMap_cons, List.filterMap_nil, List.getElem?_toArray, List.getElem?_cons_succ, List.getElem?_cons_zero, Option.map_some]; rfl) ?_
    intro hx
    repeat (first
      | (refine wpL_take hx (v := ?_) (by rfl) (fun _ hc => ?_) ?_
         rotate_left
         focus (go_simp; (try go_ints); exact rfl)
         simp only [Act.put, List.setIfInBounds_toArray, List.set_cons_zero, List.set_cons_succ])
      | (refine wpL_skip (by rfl) ?_; simp only [Act.put, List.setIfInBounds_toArray, List.set_cons_zero, List.set_cons_succ])
      | (refine wpL_call (by rfl) (fun K hK => ?_); go_simp; (first | (refine hK _ _ ?_ ?_; (focus ((repeat (first | (with_reducible exact Ext.refl _) | assumption | (with_reducible refine Ext.alloc ?_ _) | (with_reducible refine Ext.drew ?_) | (with_reducible refine Ext.drewL ?_) | refine Ext.trans ?_ (by assumption))); done))) | (refine hK undef _ ?_ ?_; (focus ((repeat (first | (with_reducible exact Ext.refl _) | assumption | (with_reducible refine Ext.alloc ?_ _) | (with_reducible refine Ext.drew ?_) | (with_reducible refine Ext.drewL ?_) | refine Ext.trans ?_ (by assumption))); done)))); clear hK; intro hr; replace hx := hx.trans hr; clear hr; try simp only [Act.put, List.setIfInBounds_toArray, List.set_cons_zero, List.set_cons_succ]))
    refine wpL_end ?_
    go_wp2_with fail
    go_wp2
    go_ret2
    exact ⟨rfl, hh.ext (Ext.drew hX), Fr.of_ext (Ext.drew hX)⟩
set_option maxRecDepth 100000 in
set_option maxHeartbeats 1000000 in
theorem acc43_out5 (base M o m : Nat) (g : Gr) (x : List Int × List Int) (a b d : Int) (w : World) (h : GSt base M o w g) (hv : Vld g) (hMw : M ≤ w.heap.size) (hx : g.ns[m]? = some x) (hk : b < 0 ∨ (x.2.length : Int) ≤ b) :
    Calls Try.prog 43 #[.pointer (some ⟨o, 0, none⟩), .int .i64 m, .agg #[.int .i64 5, .int .i64 a, .int .i64 b, .int .i64 d]] w (AccR base M o w (g, 17, 0)) := by
  have hh := h
  have hH : ∃ x1 x2 : Bool, decide (b < 0) = x1 ∧ decide ((x.2.length : Int) ≤ b) = x2 ∧ (x1 || x2) = true := ⟨_, _, rfl, rfl, by simpa using hk⟩
  clear hk
  obtain ⟨x1, x2, t1, t2, t3⟩ := hH
  cases x1 <;> cases x2 <;> simp only [Bool.or_true, Bool.or_false, Bool.true_or, Bool.false_or, Bool.false_eq_true] at t3
  all_goals
    obtain ⟨vA, vB, vC, ps, kO, hG, hM, hbo⟩ := h
    have hm := (List.getElem?_eq_some_iff.1 hx).1
    obtain ⟨bA, a1, rfl⟩ := own_at hG.nodes (by omega)
    obtain ⟨B1, b1, rfl⟩ := own_slice hG.used
    obtain ⟨C1, c1, rfl⟩ := own_slice hG.roots
    have hlen := hG.len
    obtain ⟨pp, hp⟩ : ∃ pp, ps[m]? = some pp := ⟨_, List.getElem?_eq_getElem (by omega)⟩
    obtain ⟨o1, o2⟩ := hG.each m pp x hp hx
    obtain ⟨p1, p2⟩ := pp
    obtain ⟨R, cR, hR⟩ := own_slice o1
    obtain ⟨D, cD, hD⟩ := own_slice o2
    simp only at hR hD
    subst hR
    subst hD
    obtain ⟨cA, fA⟩ := own_cells hG.nodes
    have qR := cA _ _ (vals_at ps m _ hp).1
    have qD := cA _ _ (vals_at ps m _ hp).2
    simp only at qR qD
    have Hp := Lib.hid hp
    have Hx := Lib.hid hx
    have mb : (m : Int) < g.ns.length := by omega
    go_enter Try.func43, Try.ntmps43
    go_upto_region 1 with fail
    have hX := Ext.alloc (Ext.refl w) (.cells #[.int .i64 5, .int .i64 a, .int .i64 b, .int .i64 d] 37)
    have k5 : Blk (w.alloc (.cells #[.int .i64 5, .int .i64 a, .int .i64 b, .int .i64 d] 37)) w.heap.size 37 #[.int .i64 5, .int .i64 a, .int .i64 b, .int .i64 d] := Blk.new rfl
    generalize w.alloc (.cells #[.int .i64 5, .int .i64 a, .int .i64 b, .int .i64 d] 37) = W at hX k5 ⊢
    have KO := kO.ext hX
    have HG := hG.ext hX
    have cO := KO.cell
    have c5 := k5.cell
    have l5 := k5.lt
    have lO := kO.lt
    replace qR := cell_ext hX qR
    replace qD := cell_ext hX qD
    have lA := cell_lt qR
    clear hp hx cA fA hlen
    refine wp_region_ext [(true, 0), (true, 1), (true, 2), (true, 3), (true, 4), (true, 5), (true, 6), (true, 7), (true, 8), (true, 9), (true, 10), (true, 11), (true, 12), (true, 13), (true, 14), (true, 15), (true, 16), (true, 17)] Try.mixed (by kernel_rfl) (by simp only [pick, List.filterMap_cons, List.filterMap_nil, List.getElem?_toArray, List.getElem?_cons_succ, List.getElem?_cons_zero, Option.map_some]; rfl) ?_
    intro hx
    repeat (first
      | (refine wpL_take hx (v := ?_) (by rfl) (fun _ hc => ?_) ?_
         rotate_left
         focus (go_simp; (try go_ints); exact rfl)
         simp only [Act.put, List.setIfInBounds_toArray, List.set_cons_zero, List.set_cons_succ])
      | (refine wpL_skip (by rfl) ?_; simp only [Act.put, List.setIfInBounds_toArray, List.set_cons_zero, List.set_cons_succ])
      | (refine wpL_call (by rfl) (fun K hK => ?_); go_simp; (first | (refine hK _ _ ?_ ?_; (focus ((repeat (first | (with_reducible exact Ext.refl _) | assumption | (with_reducible refine Ext.alloc ?_ _) | (with_reducible refine Ext.drew ?_) | (with_reducible refine Ext.drewL ?_) | refine Ext.trans ?_ (by assumption))); done))) | (refine hK undef _ ?_ ?_; (focus ((repeat (first | (with_reducible exact Ext.refl _) | assumption | (with_reducible refine Ext.alloc ?_ _) | (with_reducible refine Ext.drew ?_) | (with_reducible refine Ext.drewL ?_) | refine Ext.trans ?_ (by assumption))); done)))); clear hK; intro hr; replace hx := hx.trans hr; clear hr; try simp only [Act.put, List.setIfInBounds_toArray, List.set_cons_zero, List.set_cons_succ]))
    refine wpL_end ?_
    go_wp2_with fail
    go_wp2
    go_ret2
    exact ⟨rfl, hh.ext (Ext.drew hX), Fr.of_ext (Ext.drew hX)⟩
end Go.Proofs.Ytamghjilcfeheaa

namespace Go.Proofs.Ytamghjilcfeheaa
open Go.RowKit Go.Draw

set_option maxRecDepth 100000 in
set_option maxHeartbeats 1000000 in
theorem acc43_4 (base M o m k : Nat) (g : Gr) (x : List Int × List Int) (a d : Int) (w : World) (h : GSt base M o w g) (hMw : M ≤ w.heap.size) (hx : g.ns[m]? = some x) (hk : k < x.2.length) :
    Calls Try.prog 43 #[.pointer (some ⟨o, 0, none⟩), .int .i64 m, .agg #[.int .i64 4, .int .i64 a, .int .i64 k, .int .i64 d]] w (AccR base M o w (g, 0, x.2.getD k 0)) := by
  have hh := h
  obtain ⟨z, hz⟩ : ∃ z, x.2[k]? = some z := ⟨_, List.getElem?_eq_getElem hk⟩
  have Hz := Lib.hid hz
  have kd1 : decide ((k : Int) < 0) = false := by simp
  have kd2 : decide ((x.2.length : Int) ≤ k) = false := by simp; omega
  have kd3 : decide (x.2.length ≤ k) = false := by simp; omega
  have kb1 : (k : Int) < x.2.length := by omega
  clear hz
  have hzz : x.2.getD k 0 = z := by rw [List.getD_eq_getElem?_getD, Hz.out]; rfl
  rw [hzz]
  clear hzz
  obtain ⟨vA, vB, vC, ps, kO, hG, hM, hbo⟩ := h
  have hm := (List.getElem?_eq_some_iff.1 hx).1
  obtain ⟨bA, a1, rfl⟩ := own_at hG.nodes (by omega)
  obtain ⟨B1, b1, rfl⟩ := own_slice hG.used
  obtain ⟨C1, c1, rfl⟩ := own_slice hG.roots
  have hlen := hG.len
  obtain ⟨pp, hp⟩ : ∃ pp, ps[m]? = some pp := ⟨_, List.getElem?_eq_getElem (by omega)⟩
  obtain ⟨o1, o2⟩ := hG.each m pp x hp hx
  obtain ⟨p1, p2⟩ := pp
  obtain ⟨R, cR, hR⟩ := own_slice o1
  obtain ⟨D, cD, hD⟩ := own_slice o2
  simp only at hR hD
  subst hR
  subst hD
  obtain ⟨cA, fA⟩ := own_cells hG.nodes
  have qR := cA _ _ (vals_at ps m _ hp).1
  have qD := cA _ _ (vals_at ps m _ hp).2
  simp only at qR qD
  have Hp := Lib.hid hp
  have Hx := Lib.hid hx
  have mb : (m : Int) < g.ns.length := by omega
  go_enter Try.func43, Try.ntmps43
  go_upto_region 1 with fail
  have hX := Ext.alloc (Ext.refl w) (.cells #[.int .i64 4, .int .i64 a, .int .i64 k, .int .i64 d] 37)
  have k5 : Blk (w.alloc (.cells #[.int .i64 4, .int .i64 a, .int .i64 k, .int .i64 d] 37)) w.heap.size 37 #[.int .i64 4, .int .i64 a, .int .i64 k, .int .i64 d] := Blk.new rfl
  generalize w.alloc (.cells #[.int .i64 4, .int .i64 a, .int .i64 k, .int .i64 d] 37) = W at hX k5 ⊢
  have KO := kO.ext hX
  have HG := hG.ext hX
  have cO := KO.cell
  have c5 := k5.cell
  have l5 := k5.lt
  have lO := kO.lt
  replace qR := cell_ext hX qR
  replace qD := cell_ext hX qD
  have lA := cell_lt qR
  clear hp hx cA fA hlen
  refine wp_region_ext [(true, 0), (true, 1), (true, 2), (true, 3), (true, 4), (true, 5), (true, 6), (true, 7), (true, 8), (true, 9), (true, 10), (true, 11), (true, 12), (true, 13), (true, 14), (true, 15), (true, 16), (true, 17)] Try.mixed (by kernel_rfl) (by simp only [pick, List.filterMap_cons, List.filterMap_nil, List.getElem?_toArray, List.getElem?_cons_succ, List.getElem?_cons_zero, Option.map_some]; rfl) ?_
  intro hx
  repeat (first
    | (refine wpL_take hx (v := ?_) (by rfl) (fun _ hc => ?_) ?_
       rotate_left
       focus (go_simp; (try go_ints); exact rfl)
       simp only [Act.put, List.setIfInBounds_toArray, List.set_cons_zero, List.set_cons_succ])
    | (refine wpL_skip (by rfl) ?_; simp only [Act.put, List.setIfInBounds_toArray, List.set_cons_zero, List.set_cons_succ])
    | (refine wpL_call (by rfl) (fun K hK => ?_); go_simp; (first | (refine hK _ _ ?_ ?_; (focus ((repeat (first | (with_reducible exact Ext.refl _) | assumption | (with_reducible refine Ext.alloc ?_ _) | (with_reducible refine Ext.drew ?_) | (with_reducible refine Ext.drewL ?_) | refine Ext.trans ?_ (by assumption))); done))) | (refine hK undef _ ?_ ?_; (focus ((repeat (first | (with_reducible exact Ext.refl _) | assumption | (with_reducible refine Ext.alloc ?_ _) | (with_reducible refine Ext.drew ?_) | (with_reducible refine Ext.drewL ?_) | refine Ext.trans ?_ (by assumption))); done)))); clear hK; intro hr; replace hx := hx.trans hr; clear hr; try simp only [Act.put, List.setIfInBounds_toArray, List.set_cons_zero, List.set_cons_succ]))
  refine wpL_end ?_
  go_wp2_with fail
  obtain ⟨bD, cD2, e⟩ := own_at o2 (by omega)
  injection e with e1 _ e3
  subst e1 e3
  obtain ⟨cD1, fD⟩ := own_cells (own_ext o2 hX)
  have qz := cD1 k _ (words_at Hz.out)
  have lD := cell_lt qz
  clear cD1
  go_wp2
  go_ret2
  exact ⟨rfl, hh.ext (Ext.drew hX), Fr.of_ext (Ext.drew hX)⟩
set_option maxRecDepth 100000 in
set_option maxHeartbeats 1000000 in
theorem acc43_5 (base M o m k : Nat) (g : Gr) (x : List Int × List Int) (a d : Int) (w : World) (h : GSt base M o w g) (hMw : M ≤ w.heap.size) (hx : g.ns[m]? = some x) (hk : k < x.2.length) :
    Calls Try.prog 43 #[.pointer (some ⟨o, 0, none⟩), .int .i64 m, .agg #[.int .i64 5, .int .i64 a, .int .i64 k, .int .i64 d]] w (AccR base M o w (⟨g.ns.set m (x.1, x.2.set k (wrapU d)), g.us, g.rs⟩, 0, 0)) := by
  obtain ⟨z, hz⟩ : ∃ z, x.2[k]? = some z := ⟨_, List.getElem?_eq_getElem hk⟩
  have Hz := Lib.hid hz
  have kd1 : decide ((k : Int) < 0) = false := by simp
  have kd2 : decide ((x.2.length : Int) ≤ k) = false := by simp; omega
  have kd3 : decide (x.2.length ≤ k) = false := by simp; omega
  have kb1 : (k : Int) < x.2.length := by omega
  clear hz
  obtain ⟨vA, vB, vC, ps, kO, hG, hM, hbo⟩ := h
  have hm := (List.getElem?_eq_some_iff.1 hx).1
  obtain ⟨bA, a1, rfl⟩ := own_at hG.nodes (by omega)
  obtain ⟨B1, b1, rfl⟩ := own_slice hG.used
  obtain ⟨C1, c1, rfl⟩ := own_slice hG.roots
  have hlen := hG.len
  obtain ⟨pp, hp⟩ : ∃ pp, ps[m]? = some pp := ⟨_, List.getElem?_eq_getElem (by omega)⟩
  obtain ⟨o1, o2⟩ := hG.each m pp x hp hx
  obtain ⟨p1, p2⟩ := pp
  obtain ⟨R, cR, hR⟩ := own_slice o1
  obtain ⟨D, cD, hD⟩ := own_slice o2
  simp only at hR hD
  subst hR
  subst hD
  obtain ⟨cA, fA⟩ := own_cells hG.nodes
  have qR := cA _ _ (vals_at ps m _ hp).1
  have qD := cA _ _ (vals_at ps m _ hp).2
  simp only at qR qD
  have Hp := Lib.hid hp
  have Hx := Lib.hid hx
  have mb : (m : Int) < g.ns.length := by omega
  go_enter Try.func43, Try.ntmps43
  go_upto_region 1 with fail
  have hX := Ext.alloc (Ext.refl w) (.cells #[.int .i64 5, .int .i64 a, .int .i64 k, .int .i64 d] 37)
  have k5 : Blk (w.alloc (.cells #[.int .i64 5, .int .i64 a, .int .i64 k, .int .i64 d] 37)) w.heap.size 37 #[.int .i64 5, .int .i64 a, .int .i64 k, .int .i64 d] := Blk.new rfl
  generalize w.alloc (.cells #[.int .i64 5, .int .i64 a, .int .i64 k, .int .i64 d] 37) = W at hX k5 ⊢
  have KO := kO.ext hX
  have HG := hG.ext hX
  have cO := KO.cell
  have c5 := k5.cell
  have l5 := k5.lt
  have lO := kO.lt
  replace qR := cell_ext hX qR
  replace qD := cell_ext hX qD
  have lA := cell_lt qR
  clear hp hx cA fA hlen
  refine wp_region_ext [(true, 0), (true, 1), (true, 2), (true, 3), (true, 4), (true, 5), (true, 6), (true, 7), (true, 8), (true, 9), (true, 10), (true, 11), (true, 12), (true, 13), (true, 14), (true, 15), (true, 16), (true, 17)] Try.mixed (by kernel_rfl) (by simp only [pick, List.filterMap_cons, List.filterMap_nil, List.getElem?_toArray, List.getElem?_cons_succ, List.getElem?_cons_zero, Option.map_some]; rfl) ?_
  intro hx
  repeat (first
    | (refine wpL_take hx (v := ?_) (by rfl) (fun _ hc => ?_) ?_
       rotate_left
       focus (go_simp; (try go_ints); exact rfl)
       simp only [Act.put, List.setIfInBounds_toArray, List.set_cons_zero, List.set_cons_succ])
    | (refine wpL_skip (by rfl) ?_; simp only [Act.put, List.setIfInBounds_toArray, List.set_cons_zero, List.set_cons_succ])
    | (refine wpL_call (by rfl) (fun K hK => ?_); go_simp; (first | (refine hK _ _ ?_ ?_; (focus ((repeat (first | (with_reducible exact Ext.refl _) | assumption | (with_reducible refine Ext.alloc ?_ _) | (with_reducible refine Ext.drew ?_) | (with_reducible refine Ext.drewL ?_) | refine Ext.trans ?_ (by assumption))); done))) | (refine hK undef _ ?_ ?_; (focus ((repeat (first | (with_reducible exact Ext.refl _) | assumption | (with_reducible refine Ext.alloc ?_ _) | (with_reducible refine Ext.drew ?_) | (with_reducible refine Ext.drewL ?_) | refine Ext.trans ?_ (by assumption))); done)))); clear hK; intro hr; replace hx := hx.trans hr; clear hr; try simp only [Act.put, List.setIfInBounds_toArray, List.set_cons_zero, List.set_cons_succ]))
  refine wpL_end ?_
  go_wp2_with fail
  obtain ⟨bD, cD2, e⟩ := own_at o2 (by omega)
  injection e with e1 _ e3
  subst e1 e3
  obtain ⟨cD1, fD⟩ := own_cells (own_ext o2 hX)
  have qz := cD1 k _ (words_at Hz.out)
  have lD := cell_lt qz
  clear cD1
  have hbD := hG.lt (.D m) bD (by simp only [kv, Hp.out, Option.bind_some]; rfl)
  have hMD := hM (.D m) bD (by simp only [kv, Hp.out, Option.bind_some]; rfl)
  have hDo : o ≠ bD := fun e => hG.off (.D m) (by simp only [kv, Hp.out, Option.bind_some]; rw [e]; rfl)
  have n1 : w.heap.size ≠ bD := by omega
  go_wp2
  go_ret2
  have HG' := ((HG.ext (Ext.drew (Ext.refl _))).setD Hp.out Hx.out rfl k (wrapU d))
  refine ⟨rfl, ⟨_, _, _, _, ?_, HG', hM, hbo⟩, ?_⟩
  · exact (KO.drew).far (p := ⟨bD, k, none⟩) hDo (.int .u64 (wrapU d))
  · exact Fr.set (Fr.of_ext (Ext.drew hX)) (p := ⟨bD, k, none⟩) ⟨hbD.1, hMD⟩ _
end Go.Proofs.Ytamghjilcfeheaa

namespace Go.Proofs.Ytamghjilcfeheaa
open Go.RowKit Go.Draw

set_option maxRecDepth 100000 in
set_option maxHeartbeats 1000000 in
theorem acc43_2n (base M o m k : Nat) (g : Gr) (x : List Int × List Int) (a d : Int) (w : World) (h : GSt base M o w g) (hMw : M ≤ w.heap.size) (hx : g.ns[m]? = some x) (hk : k < x.1.length) (hn : x.1[k]? = some (-1)) :
    Calls Try.prog 43 #[.pointer (some ⟨o, 0, none⟩), .int .i64 m, .agg #[.int .i64 2, .int .i64 a, .int .i64 k, .int .i64 d]] w (AccR base M o w (g, 0, 0)) := by
  have hh := h
  obtain ⟨z, hz⟩ : ∃ z, x.1[k]? = some z := ⟨_, List.getElem?_eq_getElem hk⟩
  have Hz := Lib.hid hz
  have kd1 : decide ((k : Int) < 0) = false := by simp
  have kd2 : decide ((x.1.length : Int) ≤ k) = false := by simp; omega
  have kd3 : decide (x.1.length ≤ k) = false := by simp; omega
  have kb1 : (k : Int) < x.1.length := by omega
  clear hz
  have hz1 : z = -1 := by have := Hz.out; rw [hn] at this; injection this with this; exact this.symm
  subst hz1
  clear hn
  obtain ⟨vA, vB, vC, ps, kO, hG, hM, hbo⟩ := h
  have hm := (List.getElem?_eq_some_iff.1 hx).1
  obtain ⟨bA, a1, rfl⟩ := own_at hG.nodes (by omega)
  obtain ⟨B1, b1, rfl⟩ := own_slice hG.used
  obtain ⟨C1, c1, rfl⟩ := own_slice hG.roots
  have hlen := hG.len
  obtain ⟨pp, hp⟩ : ∃ pp, ps[m]? = some pp := ⟨_, List.getElem?_eq_getElem (by omega)⟩
  obtain ⟨o1, o2⟩ := hG.each m pp x hp hx
  obtain ⟨p1, p2⟩ := pp
  obtain ⟨R, cR, hR⟩ := own_slice o1
  obtain ⟨D, cD, hD⟩ := own_slice o2
  simp only at hR hD
  subst hR
  subst hD
  obtain ⟨cA, fA⟩ := own_cells hG.nodes
  have qR := cA _ _ (vals_at ps m _ hp).1
  have qD := cA _ _ (vals_at ps m _ hp).2
  simp only at qR qD
  have Hp := Lib.hid hp
  have Hx := Lib.hid hx
  have mb : (m : Int) < g.ns.length := by omega
  go_enter Try.func43, Try.ntmps43
  go_upto_region 1 with fail
  have hX := Ext.alloc (Ext.refl w) (.cells #[.int .i64 2, .int .i64 a, .int .i64 k, .int .i64 d] 37)
  have k5 : Blk (w.alloc (.cells #[.int .i64 2, .int .i64 a, .int .i64 k, .int .i64 d] 37)) w.heap.size 37 #[.int .i64 2, .int .i64 a, .int .i64 k, .int .i64 d] := Blk.new rfl
  generalize w.alloc (.cells #[.int .i64 2, .int .i64 a, .int .i64 k, .int .i64 d] 37) = W at hX k5 ⊢
  have KO := kO.ext hX
  have HG := hG.ext hX
  have cO := KO.cell
  have c5 := k5.cell
  have l5 := k5.lt
  have lO := kO.lt
  replace qR := cell_ext hX qR
  replace qD := cell_ext hX qD
  have lA := cell_lt qR
  clear hp hx cA fA hlen
  refine wp_region_ext [(true, 0), (true, 1), (true, 2), (true, 3), (true, 4), (true, 5), (true, 6), (true, 7), (true, 8), (true, 9), (true, 10), (true, 11), (true, 12), (true, 13), (true, 14), (true, 15), (true, 16), (true, 17)] Try.mixed (by kernel_rfl) (by simp only [pick, List.filterMap_cons, List.filterMap_nil, List.getElem?_toArray, List.getElem?_cons_succ, List.getElem?_cons_zero, Option.map_some]; rfl) ?_
  intro hx
  repeat (first
    | (refine wpL_take hx (v := ?_) (by rfl) (fun _ hc => ?_) ?_
       rotate_left
       focus (go_simp; (try go_ints); exact rfl)
       simp only [Act.put, List.setIfInBounds_toArray, List.set_cons_zero, List.set_cons_succ])
    | (refine wpL_skip (by rfl) ?_; simp only [Act.put, List.setIfInBounds_toArray, List.set_cons_zero, List.set_cons_succ])
    | (refine wpL_call (by rfl) (fun K hK => ?_); go_simp; (first | (refine hK _ _ ?_ ?_; (focus ((repeat (first | (with_reducible exact Ext.refl _) | assumption | (with_reducible refine Ext.alloc ?_ _) | (with_reducible refine Ext.drew ?_) | (with_reducible refine Ext.drewL ?_) | refine Ext.trans ?_ (by assumption))); done))) | (refine hK undef _ ?_ ?_; (focus ((repeat (first | (with_reducible exact Ext.refl _) | assumption | (with_reducible refine Ext.alloc ?_ _) | (with_reducible refine Ext.drew ?_) | (with_reducible refine Ext.drewL ?_) | refine Ext.trans ?_ (by assumption))); done)))); clear hK; intro hr; replace hx := hx.trans hr; clear hr; try simp only [Act.put, List.setIfInBounds_toArray, List.set_cons_zero, List.set_cons_succ]))
  refine wpL_end ?_
  go_wp2_with fail
  obtain ⟨bD, cD2, e⟩ := own_at o1 (by omega)
  injection e with e1 _ e3
  subst e1 e3
  obtain ⟨cD1, fD⟩ := own_cells (own_ext o1 hX)
  have qz := cD1 k _ (ints_at Hz.out)
  have lD := cell_lt qz
  clear cD1
  go_wp2
  go_ret2
  exact ⟨rfl, hh.ext (Ext.drew hX), Fr.of_ext (Ext.drew hX)⟩
set_option maxRecDepth 100000 in
set_option maxHeartbeats 1000000 in
theorem acc43_2f (base M o m k : Nat) (g : Gr) (x : List Int × List Int) (a d z0 : Int) (w : World) (h : GSt base M o w g) (hMw : M ≤ w.heap.size) (hx : g.ns[m]? = some x) (hk : k < x.1.length) (hn : x.1[k]? = some z0) (h0 : 0 ≤ z0) (hlu : g.us.length = 32) (hf : ¬ freeT g.us < 32) :
    Calls Try.prog 43 #[.pointer (some ⟨o, 0, none⟩), .int .i64 m, .agg #[.int .i64 2, .int .i64 a, .int .i64 k, .int .i64 d]] w (AccR base M o w (g, 15, 0)) := by
  have hh := h
  obtain ⟨z, hz⟩ : ∃ z, x.1[k]? = some z := ⟨_, List.getElem?_eq_getElem hk⟩
  have Hz := Lib.hid hz
  have kd1 : decide ((k : Int) < 0) = false := by simp
  have kd2 : decide ((x.1.length : Int) ≤ k) = false := by simp; omega
  have kd3 : decide (x.1.length ≤ k) = false := by simp; omega
  have kb1 : (k : Int) < x.1.length := by omega
  clear hz
  have hz1 : z0 = z := by have := Hz.out; rw [hn] at this; injection this with this
  subst hz1
  have zd : decide (z0 < 0) = false := by simp; omega
  clear hn
  obtain ⟨vA, vB, vC, ps, kO, hG, hM, hbo⟩ := h
  have hm := (List.getElem?_eq_some_iff.1 hx).1
  obtain ⟨bA, a1, rfl⟩ := own_at hG.nodes (by omega)
  obtain ⟨B1, b1, rfl⟩ := own_slice hG.used
  obtain ⟨C1, c1, rfl⟩ := own_slice hG.roots
  have hlen := hG.len
  obtain ⟨pp, hp⟩ : ∃ pp, ps[m]? = some pp := ⟨_, List.getElem?_eq_getElem (by omega)⟩
  obtain ⟨o1, o2⟩ := hG.each m pp x hp hx
  obtain ⟨p1, p2⟩ := pp
  obtain ⟨R, cR, hR⟩ := own_slice o1
  obtain ⟨D, cD, hD⟩ := own_slice o2
  simp only at hR hD
  subst hR
  subst hD
  obtain ⟨cA, fA⟩ := own_cells hG.nodes
  have qR := cA _ _ (vals_at ps m _ hp).1
  have qD := cA _ _ (vals_at ps m _ hp).2
  simp only at qR qD
  have Hp := Lib.hid hp
  have Hx := Lib.hid hx
  have mb : (m : Int) < g.ns.length := by omega
  go_enter Try.func43, Try.ntmps43
  go_upto_region 1 with fail
  have hX := Ext.alloc (Ext.refl w) (.cells #[.int .i64 2, .int .i64 a, .int .i64 k, .int .i64 d] 37)
  have k5 : Blk (w.alloc (.cells #[.int .i64 2, .int .i64 a, .int .i64 k, .int .i64 d] 37)) w.heap.size 37 #[.int .i64 2, .int .i64 a, .int .i64 k, .int .i64 d] := Blk.new rfl
  generalize w.alloc (.cells #[.int .i64 2, .int .i64 a, .int .i64 k, .int .i64 d] 37) = W at hX k5 ⊢
  have KO := kO.ext hX
  have HG := hG.ext hX
  have cO := KO.cell
  have c5 := k5.cell
  have l5 := k5.lt
  have lO := kO.lt
  replace qR := cell_ext hX qR
  replace qD := cell_ext hX qD
  have lA := cell_lt qR
  clear hp hx cA fA hlen
  refine wp_region_ext [(true, 0), (true, 1), (true, 2), (true, 3), (true, 4), (true, 5), (true, 6), (true, 7), (true, 8), (true, 9), (true, 10), (true, 11), (true, 12), (true, 13), (true, 14), (true, 15), (true, 16), (true, 17)] Try.mixed (by kernel_rfl) (by simp only [pick, List.filterMap_cons, List.filterMap_nil, List.getElem?_toArray, List.getElem?_cons_succ, List.getElem?_cons_zero, Option.map_some]; rfl) ?_
  intro hx
  repeat (first
    | (refine wpL_take hx (v := ?_) (by rfl) (fun _ hc => ?_) ?_
       rotate_left
       focus (go_simp; (try go_ints); exact rfl)
       simp only [Act.put, List.setIfInBounds_toArray, List.set_cons_zero, List.set_cons_succ])
    | (refine wpL_skip (by rfl) ?_; simp only [Act.put, List.setIfInBounds_toArray, List.set_cons_zero, List.set_cons_succ])
    | (refine wpL_call (by rfl) (fun K hK => ?_); go_simp; (first | (refine hK _ _ ?_ ?_; (focus ((repeat (first | (with_reducible exact Ext.refl _) | assumption | (with_reducible refine Ext.alloc ?_ _) | (with_reducible refine Ext.drew ?_) | (with_reducible refine Ext.drewL ?_) | refine Ext.trans ?_ (by assumption))); done))) | (refine hK undef _ ?_ ?_; (focus ((repeat (first | (with_reducible exact Ext.refl _) | assumption | (with_reducible refine Ext.alloc ?_ _) | (with_reducible refine Ext.drew ?_) | (with_reducible refine Ext.drewL ?_) | refine Ext.trans ?_ (by assumption))); done)))); clear hK; intro hr; replace hx := hx.trans hr; clear hr; try simp only [Act.put, List.setIfInBounds_toArray, List.set_cons_zero, List.set_cons_succ]))
  refine wpL_end ?_
  go_wp2_with fail
  obtain ⟨bD, cD2, e⟩ := own_at o1 (by omega)
  injection e with e1 _ e3
  subst e1 e3
  obtain ⟨cD1, fD⟩ := own_cells (own_ext o1 hX)
  have qz := cD1 k _ (ints_at Hz.out)
  have lD := cell_lt qz
  clear cD1
  go_wp2_with (first | (go_at_call 44; refine (take44_none base M o g _ _ (hh.ext (Ext.drew hX)) hlu hf).mono ?_; rintro e w1 ⟨rfl, hE⟩))
  go_ret2
  exact ⟨rfl, hh.ext ((Ext.drew hX).trans hE), (Fr.of_ext (Ext.drew hX)).ext hE⟩
set_option maxRecDepth 100000 in
set_option maxHeartbeats 1000000 in
theorem acc43_2s (base M o m k f : Nat) (g : Gr) (x : List Int × List Int) (a d z0 : Int) (w : World) (h : GSt base M o w g) (hMw : M ≤ w.heap.size) (hx : g.ns[m]? = some x) (hk : k < x.1.length) (hn : x.1[k]? = some z0) (h0 : 0 ≤ z0) (hlu : g.us.length = 32) (hlr : g.rs.length = 32) (hfe : freeT g.us = f) (hf : f < 32) :
    Calls Try.prog 43 #[.pointer (some ⟨o, 0, none⟩), .int .i64 m, .agg #[.int .i64 2, .int .i64 a, .int .i64 k, .int .i64 d]] w (AccR base M o w (⟨g.ns, g.us.set f true, g.rs.set f z0⟩, 0, (f : Int) + 1)) := by
  have hh := h
  obtain ⟨z, hz⟩ : ∃ z, x.1[k]? = some z := ⟨_, List.getElem?_eq_getElem hk⟩
  have Hz := Lib.hid hz
  have kd1 : decide ((k : Int) < 0) = false := by simp
  have kd2 : decide ((x.1.length : Int) ≤ k) = false := by simp; omega
  have kd3 : decide (x.1.length ≤ k) = false := by simp; omega
  have kb1 : (k : Int) < x.1.length := by omega
  clear hz
  have hz1 : z0 = z := by have := Hz.out; rw [hn] at this; injection this with this
  subst hz1
  have zd : decide (z0 < 0) = false := by simp; omega
  clear hn
  obtain ⟨vA, vB, vC, ps, kO, hG, hM, hbo⟩ := h
  have hm := (List.getElem?_eq_some_iff.1 hx).1
  obtain ⟨bA, a1, rfl⟩ := own_at hG.nodes (by omega)
  obtain ⟨B1, b1, rfl⟩ := own_slice hG.used
  obtain ⟨C1, c1, rfl⟩ := own_slice hG.roots
  have hlen := hG.len
  obtain ⟨pp, hp⟩ : ∃ pp, ps[m]? = some pp := ⟨_, List.getElem?_eq_getElem (by omega)⟩
  obtain ⟨o1, o2⟩ := hG.each m pp x hp hx
  obtain ⟨p1, p2⟩ := pp
  obtain ⟨R, cR, hR⟩ := own_slice o1
  obtain ⟨D, cD, hD⟩ := own_slice o2
  simp only at hR hD
  subst hR
  subst hD
  obtain ⟨cA, fA⟩ := own_cells hG.nodes
  have qR := cA _ _ (vals_at ps m _ hp).1
  have qD := cA _ _ (vals_at ps m _ hp).2
  simp only at qR qD
  have Hp := Lib.hid hp
  have Hx := Lib.hid hx
  have mb : (m : Int) < g.ns.length := by omega
  go_enter Try.func43, Try.ntmps43
  go_upto_region 1 with fail
  have hX := Ext.alloc (Ext.refl w) (.cells #[.int .i64 2, .int .i64 a, .int .i64 k, .int .i64 d] 37)
  have k5 : Blk (w.alloc (.cells #[.int .i64 2, .int .i64 a, .int .i64 k, .int .i64 d] 37)) w.heap.size 37 #[.int .i64 2, .int .i64 a, .int .i64 k, .int .i64 d] := Blk.new rfl
  generalize w.alloc (.cells #[.int .i64 2, .int .i64 a, .int .i64 k, .int .i64 d] 37) = W at hX k5 ⊢
  have KO := kO.ext hX
  have HG := hG.ext hX
  have cO := KO.cell
  have c5 := k5.cell
  have l5 := k5.lt
  have lO := kO.lt
  replace qR := cell_ext hX qR
  replace qD := cell_ext hX qD
  have lA := cell_lt qR
  clear hp hx cA fA hlen
  refine wp_region_ext [(true, 0), (true, 1), (true, 2), (true, 3), (true, 4), (true, 5), (true, 6), (true, 7), (true, 8), (true, 9), (true, 10), (true, 11), (true, 12), (true, 13), (true, 14), (true, 15), (true, 16), (true, 17)] Try.mixed (by kernel_rfl) (by simp only [pick, List.filterMap_cons, List.filterMap_nil, List.getElem?_toArray, List.getElem?_cons_succ, List.getElem?_cons_zero, Option.map_some]; rfl) ?_
  intro hx
  repeat (first
    | (refine wpL_take hx (v := ?_) (by rfl) (fun _ hc => ?_) ?_
       rotate_left
       focus (go_simp; (try go_ints); exact rfl)
       simp only [Act.put, List.setIfInBounds_toArray, List.set_cons_zero, List.set_cons_succ])
    | (refine wpL_skip (by rfl) ?_; simp only [Act.put, List.setIfInBounds_toArray, List.set_cons_zero, List.set_cons_succ])
    | (refine wpL_call (by rfl) (fun K hK => ?_); go_simp; (first | (refine hK _ _ ?_ ?_; (focus ((repeat (first | (with_reducible exact Ext.refl _) | assumption | (with_reducible refine Ext.alloc ?_ _) | (with_reducible refine Ext.drew ?_) | (with_reducible refine Ext.drewL ?_) | refine Ext.trans ?_ (by assumption))); done))) | (refine hK undef _ ?_ ?_; (focus ((repeat (first | (with_reducible exact Ext.refl _) | assumption | (with_reducible refine Ext.alloc ?_ _) | (with_reducible refine Ext.drew ?_) | (with_reducible refine Ext.drewL ?_) | refine Ext.trans ?_ (by assumption))); done)))); clear hK; intro hr; replace hx := hx.trans hr; clear hr; try simp only [Act.put, List.setIfInBounds_toArray, List.set_cons_zero, List.set_cons_succ]))
  refine wpL_end ?_
  go_wp2_with fail
  obtain ⟨bD, cD2, e⟩ := own_at o1 (by omega)
  injection e with e1 _ e3
  subst e1 e3
  obtain ⟨cD1, fD⟩ := own_cells (own_ext o1 hX)
  have qz := cD1 k _ (ints_at Hz.out)
  have lD := cell_lt qz
  clear cD1
  go_wp2_with (first | (go_at_call 44; refine (take44_some base M o f g _ _ (hh.ext (Ext.drew hX)) hlu hlr hfe hf).mono ?_; rintro e w1 ⟨rfl, hG1, hF1⟩))
  go_ret2
  exact ⟨rfl, hG1, (Fr.of_ext (Ext.drew hX)).trans hF1⟩
set_option maxRecDepth 100000 in
set_option maxHeartbeats 1000000 in
theorem acc43_3e (base M o m k : Nat) (g : Gr) (x : List Int × List Int) (a d : Int) (w : World) (h : GSt base M o w g) (hv : Vld g) (hMw : M ≤ w.heap.size) (hx : g.ns[m]? = some x) (hk : k < x.1.length) (he : hErr g d false ≠ 0) :
    Calls Try.prog 43 #[.pointer (some ⟨o, 0, none⟩), .int .i64 m, .agg #[.int .i64 3, .int .i64 a, .int .i64 k, .int .i64 d]] w (AccR base M o w (g, hErr g d false, 0)) := by
  have hh := h
  have hmn : mNd g d = 0 := by unfold mNd; rw [if_neg he]
  have he2 : (hErr g d false != 0) = true := by simpa using he
  obtain ⟨z, hz⟩ : ∃ z, x.1[k]? = some z := ⟨_, List.getElem?_eq_getElem hk⟩
  have Hz := Lib.hid hz
  have kd1 : decide ((k : Int) < 0) = false := by simp
  have kd2 : decide ((x.1.length : Int) ≤ k) = false := by simp; omega
  have kd3 : decide (x.1.length ≤ k) = false := by simp; omega
  have kb1 : (k : Int) < x.1.length := by omega
  clear hz
  obtain ⟨vA, vB, vC, ps, kO, hG, hM, hbo⟩ := h
  have hm := (List.getElem?_eq_some_iff.1 hx).1
  obtain ⟨bA, a1, rfl⟩ := own_at hG.nodes (by omega)
  obtain ⟨B1, b1, rfl⟩ := own_slice hG.used
  obtain ⟨C1, c1, rfl⟩ := own_slice hG.roots
  have hlen := hG.len
  obtain ⟨pp, hp⟩ : ∃ pp, ps[m]? = some pp := ⟨_, List.getElem?_eq_getElem (by omega)⟩
  obtain ⟨o1, o2⟩ := hG.each m pp x hp hx
  obtain ⟨p1, p2⟩ := pp
  obtain ⟨R, cR, hR⟩ := own_slice o1
  obtain ⟨D, cD, hD⟩ := own_slice o2
  simp only at hR hD
  subst hR
  subst hD
  obtain ⟨cA, fA⟩ := own_cells hG.nodes
  have qR := cA _ _ (vals_at ps m _ hp).1
  have qD := cA _ _ (vals_at ps m _ hp).2
  simp only at qR qD
  have Hp := Lib.hid hp
  have Hx := Lib.hid hx
  have mb : (m : Int) < g.ns.length := by omega
  go_enter Try.func43, Try.ntmps43
  go_upto_region 1 with fail
  have hX := Ext.alloc (Ext.refl w) (.cells #[.int .i64 3, .int .i64 a, .int .i64 k, .int .i64 d] 37)
  have k5 : Blk (w.alloc (.cells #[.int .i64 3, .int .i64 a, .int .i64 k, .int .i64 d] 37)) w.heap.size 37 #[.int .i64 3, .int .i64 a, .int .i64 k, .int .i64 d] := Blk.new rfl
  generalize w.alloc (.cells #[.int .i64 3, .int .i64 a, .int .i64 k, .int .i64 d] 37) = W at hX k5 ⊢
  have KO := kO.ext hX
  have HG := hG.ext hX
  have cO := KO.cell
  have c5 := k5.cell
  have l5 := k5.lt
  have lO := kO.lt
  replace qR := cell_ext hX qR
  replace qD := cell_ext hX qD
  have lA := cell_lt qR
  clear hp hx cA fA hlen
  refine wp_region_ext [(true, 0), (true, 1), (true, 2), (true, 3), (true, 4), (true, 5), (true, 6), (true, 7), (true, 8), (true, 9), (true, 10), (true, 11), (true, 12), (true, 13), (true, 14), (true, 15), (true, 16), (true, 17)] Try.mixed (by kernel_rfl) (by simp only [pick, List.filterMap_cons, List.filterMap_nil, List.getElem?_toArray, List.getElem?_cons_succ, List.getElem?_cons_zero, Option.map_some]; rfl) ?_
  intro hx
  repeat (first
    | (refine wpL_take hx (v := ?_) (by rfl) (fun _ hc => ?_) ?_
       rotate_left
       focus (go_simp; (try go_ints); exact rfl)
       simp only [Act.put, List.setIfInBounds_toArray, List.set_cons_zero, List.set_cons_succ])
    | (refine wpL_skip (by rfl) ?_; simp only [Act.put, List.setIfInBounds_toArray, List.set_cons_zero, List.set_cons_succ])
    | (refine wpL_call (by rfl) (fun K hK => ?_); go_simp; (first | (refine hK _ _ ?_ ?_; (focus ((repeat (first | (with_reducible exact Ext.refl _) | assumption | (with_reducible refine Ext.alloc ?_ _) | (with_reducible refine Ext.drew ?_) | (with_reducible refine Ext.drewL ?_) | refine Ext.trans ?_ (by assumption))); done))) | (refine hK undef _ ?_ ?_; (focus ((repeat (first | (with_reducible exact Ext.refl _) | assumption | (with_reducible refine Ext.alloc ?_ _) | (with_reducible refine Ext.drew ?_) | (with_reducible refine Ext.drewL ?_) | refine Ext.trans ?_ (by assumption))); done)))); clear hK; intro hr; replace hx := hx.trans hr; clear hr; try simp only [Act.put, List.setIfInBounds_toArray, List.set_cons_zero, List.set_cons_succ]))
  refine wpL_end ?_
  go_wp2_with fail
  obtain ⟨bD, cD2, e⟩ := own_at o1 (by omega)
  injection e with e1 _ e3
  subst e1 e3
  obtain ⟨cD1, fD⟩ := own_cells (own_ext o1 hX)
  have qz := cD1 k _ (ints_at Hz.out)
  have lD := cell_lt qz
  clear cD1
  refine wp_region_ext [(true, 0), (true, 1), (true, 2), (true, 3), (true, 4), (false, 5), (true, 6), (true, 7), (true, 8), (true, 9), (true, 10)] Try.mixed (by kernel_rfl) (by simp only [pick, List.filterMap_cons, List.filterMap_nil, List.getElem?_toArray, List.getElem?_cons_succ, List.getElem?_cons_zero, Option.map_some]; rfl) ?_
  intro hx
  repeat (first
    | (refine wpL_take hx (v := ?_) (by rfl) (fun _ hc => ?_) ?_
       rotate_left
       focus (go_simp; (try go_ints); exact rfl)
       simp only [Act.put, List.setIfInBounds_toArray, List.set_cons_zero, List.set_cons_succ])
    | (refine wpL_skip (by rfl) ?_; simp only [Act.put, List.setIfInBounds_toArray, List.set_cons_zero, List.set_cons_succ])
    | (refine wpL_call (by rfl) (fun K hK => ?_); go_simp; go_at_call 45; refine (node45_any _ g d _ (HG.rd.ext (by (repeat (first | (with_reducible exact Ext.refl _) | assumption | (with_reducible refine Ext.alloc ?_ _) | (with_reducible refine Ext.drew ?_) | (with_reducible refine Ext.drewL ?_) | refine Ext.trans ?_ (by assumption))))) hv.lu hv.lr).mono ?_; rintro e w1 ⟨rfl, hE⟩; rw [hmn]; refine hK _ _ (hE) ?_; clear hK; intro hr; replace hx := hx.trans hr; clear hr; simp only [Act.put, List.setIfInBounds_toArray, List.set_cons_zero, List.set_cons_succ])
    | (refine wpL_call (by rfl) (fun K hK => ?_); go_simp; (first | (refine hK _ _ ?_ ?_; (focus ((repeat (first | (with_reducible exact Ext.refl _) | assumption | (with_reducible refine Ext.alloc ?_ _) | (with_reducible refine Ext.drew ?_) | (with_reducible refine Ext.drewL ?_) | refine Ext.trans ?_ (by assumption))); done))) | (refine hK undef _ ?_ ?_; (focus ((repeat (first | (with_reducible exact Ext.refl _) | assumption | (with_reducible refine Ext.alloc ?_ _) | (with_reducible refine Ext.drew ?_) | (with_reducible refine Ext.drewL ?_) | refine Ext.trans ?_ (by assumption))); done)))); clear hK; intro hr; replace hx := hx.trans hr; clear hr; try simp only [Act.put, List.setIfInBounds_toArray, List.set_cons_zero, List.set_cons_succ]))
  refine wpL_end ?_
  go_wp2
  go_ret2
  exact ⟨rfl, hh.ext (((Ext.drew hX).trans (by (repeat (first | (with_reducible exact Ext.refl _) | assumption | (with_reducible refine Ext.alloc ?_ _) | (with_reducible refine Ext.drew ?_) | (with_reducible refine Ext.drewL ?_) | refine Ext.trans ?_ (by assumption))))).trans hE), (Fr.of_ext ((Ext.drew hX).trans (by (repeat (first | (with_reducible exact Ext.refl _) | assumption | (with_reducible refine Ext.alloc ?_ _) | (with_reducible refine Ext.drew ?_) | (with_reducible refine Ext.drewL ?_) | refine Ext.trans ?_ (by assumption)))))).ext hE⟩
set_option maxRecDepth 100000 in
set_option maxHeartbeats 1000000 in
theorem acc43_3 (base M o m k : Nat) (g : Gr) (x : List Int × List Int) (a d : Int) (w : World) (h : GSt base M o w g) (hv : Vld g) (hMw : M ≤ w.heap.size) (hx : g.ns[m]? = some x) (hk : k < x.1.length) (he : hErr g d false = 0) :
    Calls Try.prog 43 #[.pointer (some ⟨o, 0, none⟩), .int .i64 m, .agg #[.int .i64 3, .int .i64 a, .int .i64 k, .int .i64 d]] w (AccR base M o w (⟨g.ns.set m (x.1.set k (hNd g d), x.2), g.us, g.rs⟩, 0, 0)) := by
  have hmn : mNd g d = hNd g d := by unfold mNd; rw [if_pos he]
  have he2 : (hErr g d false != 0) = false := by simpa using he
  obtain ⟨z, hz⟩ : ∃ z, x.1[k]? = some z := ⟨_, List.getElem?_eq_getElem hk⟩
  have Hz := Lib.hid hz
  have kd1 : decide ((k : Int) < 0) = false := by simp
  have kd2 : decide ((x.1.length : Int) ≤ k) = false := by simp; omega
  have kd3 : decide (x.1.length ≤ k) = false := by simp; omega
  have kb1 : (k : Int) < x.1.length := by omega
  clear hz
  obtain ⟨vA, vB, vC, ps, kO, hG, hM, hbo⟩ := h
  have hm := (List.getElem?_eq_some_iff.1 hx).1
  obtain ⟨bA, a1, rfl⟩ := own_at hG.nodes (by omega)
  obtain ⟨B1, b1, rfl⟩ := own_slice hG.used
  obtain ⟨C1, c1, rfl⟩ := own_slice hG.roots
  have hlen := hG.len
  obtain ⟨pp, hp⟩ : ∃ pp, ps[m]? = some pp := ⟨_, List.getElem?_eq_getElem (by omega)⟩
  obtain ⟨o1, o2⟩ := hG.each m pp x hp hx
  obtain ⟨p1, p2⟩ := pp
  obtain ⟨R, cR, hR⟩ := own_slice o1
  obtain ⟨D, cD, hD⟩ := own_slice o2
  simp only at hR hD
  subst hR
  subst hD
  obtain ⟨cA, fA⟩ := own_cells hG.nodes
  have qR := cA _ _ (vals_at ps m _ hp).1
  have qD := cA _ _ (vals_at ps m _ hp).2
  simp only at qR qD
  have Hp := Lib.hid hp
  have Hx := Lib.hid hx
  have mb : (m : Int) < g.ns.length := by omega
  go_enter Try.func43, Try.ntmps43
  go_upto_region 1 with fail
  have hX := Ext.alloc (Ext.refl w) (.cells #[.int .i64 3, .int .i64 a, .int .i64 k, .int .i64 d] 37)
  have k5 : Blk (w.alloc (.cells #[.int .i64 3, .int .i64 a, .int .i64 k, .int .i64 d] 37)) w.heap.size 37 #[.int .i64 3, .int .i64 a, .int .i64 k, .int .i64 d] := Blk.new rfl
  generalize w.alloc (.cells #[.int .i64 3, .int .i64 a, .int .i64 k, .int .i64 d] 37) = W at hX k5 ⊢
  have KO := kO.ext hX
  have HG := hG.ext hX
  have cO := KO.cell
  have c5 := k5.cell
  have l5 := k5.lt
  have lO := kO.lt
  replace qR := cell_ext hX qR
  replace qD := cell_ext hX qD
  have lA := cell_lt qR
  clear hp hx cA fA hlen
  refine wp_region_ext [(true, 0), (true, 1), (true, 2), (true, 3), (true, 4), (true, 5), (true, 6), (true, 7), (true, 8), (true, 9), (true, 10), (true, 11), (true, 12), (true, 13), (true, 14), (true, 15), (true, 16), (true, 17)] Try.mixed (by kernel_rfl) (by simp only [pick, List.filterMap_cons, List.filterMap_nil, List.getElem?_toArray, List.getElem?_cons_succ, List.getElem?_cons_zero, Option.map_some]; rfl) ?_
  intro hx
  repeat (first
    | (refine wpL_take hx (v := ?_) (by rfl) (fun _ hc => ?_) ?_
       rotate_left
       focus (go_simp; (try go_ints); exact rfl)
       simp only [Act.put, List.setIfInBounds_toArray, List.set_cons_zero, List.set_cons_succ])
    | (refine wpL_skip (by rfl) ?_; simp only [Act.put, List.setIfInBounds_toArray, List.set_cons_zero, List.set_cons_succ])
    | (refine wpL_call (by rfl) (fun K hK => ?_); go_simp; (first | (refine hK _ _ ?_ ?_; (focus ((repeat (first | (with_reducible exact Ext.refl _) | assumption | (with_reducible refine Ext.alloc ?_ _) | (with_reducible refine Ext.drew ?_) | (with_reducible refine Ext.drewL ?_) | refine Ext.trans ?_ (by assumption))); done))) | (refine hK undef _ ?_ ?_; (focus ((repeat (first | (with_reducible exact Ext.refl _) | assumption | (with_reducible refine Ext.alloc ?_ _) | (with_reducible refine Ext.drew ?_) | (with_reducible refine Ext.drewL ?_) | refine Ext.trans ?_ (by assumption))); done)))); clear hK; intro hr; replace hx := hx.trans hr; clear hr; try simp only [Act.put, List.setIfInBounds_toArray, List.set_cons_zero, List.set_cons_succ]))
  refine wpL_end ?_
  go_wp2_with fail
  obtain ⟨bD, cD2, e⟩ := own_at o1 (by omega)
  injection e with e1 _ e3
  subst e1 e3
  obtain ⟨cD1, fD⟩ := own_cells (own_ext o1 hX)
  have qz := cD1 k _ (ints_at Hz.out)
  have lD := cell_lt qz
  clear cD1
  have hbD := hG.lt (.R m) bD (by simp only [kv, Hp.out, Option.bind_some]; rfl)
  have hMD := hM (.R m) bD (by simp only [kv, Hp.out, Option.bind_some]; rfl)
  have hDo : o ≠ bD := fun e => hG.off (.R m) (by simp only [kv, Hp.out, Option.bind_some]; rw [e]; rfl)
  have n1 : w.heap.size ≠ bD := by omega
  refine wp_region_ext [(true, 0), (true, 1), (true, 2), (true, 3), (true, 4), (false, 5), (true, 6), (true, 7), (true, 8), (true, 9), (true, 10)] Try.mixed (by kernel_rfl) (by simp only [pick, List.filterMap_cons, List.filterMap_nil, List.getElem?_toArray, List.getElem?_cons_succ, List.getElem?_cons_zero, Option.map_some]; rfl) ?_
  intro hx
  repeat (first
    | (refine wpL_take hx (v := ?_) (by rfl) (fun _ hc => ?_) ?_
       rotate_left
       focus (go_simp; (try go_ints); exact rfl)
       simp only [Act.put, List.setIfInBounds_toArray, List.set_cons_zero, List.set_cons_succ])
    | (refine wpL_skip (by rfl) ?_; simp only [Act.put, List.setIfInBounds_toArray, List.set_cons_zero, List.set_cons_succ])
    | (refine wpL_call (by rfl) (fun K hK => ?_); go_simp; go_at_call 45; refine (node45_any _ g d _ (HG.rd.ext (by (repeat (first | (with_reducible exact Ext.refl _) | assumption | (with_reducible refine Ext.alloc ?_ _) | (with_reducible refine Ext.drew ?_) | (with_reducible refine Ext.drewL ?_) | refine Ext.trans ?_ (by assumption))))) hv.lu hv.lr).mono ?_; rintro e w1 ⟨rfl, hE⟩; rw [hmn]; refine hK _ _ (hE) ?_; clear hK; intro hr; replace hx := hx.trans hr; clear hr; simp only [Act.put, List.setIfInBounds_toArray, List.set_cons_zero, List.set_cons_succ])
    | (refine wpL_call (by rfl) (fun K hK => ?_); go_simp; (first | (refine hK _ _ ?_ ?_; (focus ((repeat (first | (with_reducible exact Ext.refl _) | assumption | (with_reducible refine Ext.alloc ?_ _) | (with_reducible refine Ext.drew ?_) | (with_reducible refine Ext.drewL ?_) | refine Ext.trans ?_ (by assumption))); done))) | (refine hK undef _ ?_ ?_; (focus ((repeat (first | (with_reducible exact Ext.refl _) | assumption | (with_reducible refine Ext.alloc ?_ _) | (with_reducible refine Ext.drew ?_) | (with_reducible refine Ext.drewL ?_) | refine Ext.trans ?_ (by assumption))); done)))); clear hK; intro hr; replace hx := hx.trans hr; clear hr; try simp only [Act.put, List.setIfInBounds_toArray, List.set_cons_zero, List.set_cons_succ]))
  refine wpL_end ?_
  have hW1 : Ext W w1 := (Ext.drew (Ext.drew (Ext.refl W))).trans hE
  have qz2 := cell_ext hW1 qz
  have c52 := (k5.ext hW1).cell
  have fD2 := (own_cells (own_ext (own_ext o1 hX) hW1)).2
  have lD2 := cell_lt qz2
  go_wp2
  go_ret2
  have HG' := (HG.ext hW1).setR Hp.out Hx.out rfl k (hNd g d)
  refine ⟨rfl, ⟨_, _, _, _, ?_, HG', hM, hbo⟩, ?_⟩
  · exact (KO.ext hW1).far (p := ⟨bD, k, none⟩) hDo (.int .i64 (hNd g d))
  · exact Fr.set (Fr.of_ext (hX.trans hW1)) (p := ⟨bD, k, none⟩) ⟨hbD.1, hMD⟩ _
end Go.Proofs.Ytamghjilcfeheaa
