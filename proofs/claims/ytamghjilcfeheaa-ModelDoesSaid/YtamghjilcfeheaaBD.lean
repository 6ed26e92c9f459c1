/- The walks of the model's object, and of access where a handle is dropped. Conditions: the ranges that each theorem states. -/
import Derived.Test.YtamghjilcfeheaaBB
import Derived.Test.YtamghjilcfeheaaM
namespace Go.Proofs.Ytamghjilcfeheaa
open Go.RowKit Go.Draw

def objN (g : Gr) (x : Int) : Int := if hErr g x true = 0 then hNd g x else 0
set_option maxHeartbeats 1000000 in
theorem object42_any (v : Value) (g : Gr) (x : Int) (w : World) (hg : GRd w v g) (hv : Vld g) :
    Calls Try.prog 42 #[v, .int .i64 x] w fun e w' => e = .returned (.tuple #[.int .i64 (objN g x), .int .i64 (hErr g x true)]) ∧ Ext w w' := by
  obtain ⟨A, a, B, b, C, c, rfl⟩ := hg.sl
  by_cases h0 : x = 0
  · subst h0
    have e1 : mNd g 0 = -1 := by unfold mNd; rw [hErr_zero]; simp [hNd_zero]
    have e2 : hErr g 0 false = 0 := by rw [hErr_zero]; rfl
    have e3 : objN g 0 = 0 := by unfold objN; rw [hErr_zero]; rfl
    have e4 : hErr g 0 true = 16 := by rw [hErr_zero]; rfl
    rw [e3, e4]
    go_enter Try.func42, Try.ntmps42
    go_upto_region 2 with (go_at_call 45; refine (node45_any _ g 0 _ (hg.ext (by (repeat (first | (with_reducible exact Ext.refl _) | assumption | (with_reducible refine Ext.alloc ?_ _) | (with_reducible refine Ext.drew ?_) | (with_reducible refine Ext.drewL ?_) | refine Ext.trans ?_ (by assumption))))) hv.lu hv.lr).mono ?_; rintro e w1 ⟨rfl, hE⟩; rw [e1, e2])
    go_wp2
    go_ret2
    exact ⟨rfl, by (repeat (first | (with_reducible exact Ext.refl _) | assumption | (with_reducible refine Ext.alloc ?_ _) | (with_reducible refine Ext.drew ?_) | (with_reducible refine Ext.drewL ?_) | refine Ext.trans ?_ (by assumption)))⟩
  · have e1 : hErr g x true = hErr g x false := by unfold hErr; rw [if_neg h0, if_neg h0]
    rw [e1]
    by_cases he : hErr g x false = 0
    · have e2 : objN g x = hNd g x := by unfold objN; rw [e1, if_pos he]
      have e3 : mNd g x = hNd g x := by unfold mNd; rw [if_pos he]
      rw [e2, he]
      have hn0 : 0 ≤ hNd g x := by
        rcases hErr_ok hv.lu he with ⟨h, _⟩ | ⟨i, rfl, hi, hu⟩
        · exact absurd h h0
        · obtain ⟨m, y, _, hr, _⟩ := hv.at_ hu
          rw [hNd_in g i _ hr]; omega
      generalize hNd g x = nd at *
      have d1 : decide (nd < 0) = false := by simp; omega
      go_enter Try.func42, Try.ntmps42
      go_upto_region 2 with (go_at_call 45; refine (node45_any _ g x _ (hg.ext (by (repeat (first | (with_reducible exact Ext.refl _) | assumption | (with_reducible refine Ext.alloc ?_ _) | (with_reducible refine Ext.drew ?_) | (with_reducible refine Ext.drewL ?_) | refine Ext.trans ?_ (by assumption))))) hv.lu hv.lr).mono ?_; rintro e w1 ⟨rfl, hE⟩; rw [e3, he])
      go_wp2
      go_ret2
      exact ⟨rfl, by (repeat (first | (with_reducible exact Ext.refl _) | assumption | (with_reducible refine Ext.alloc ?_ _) | (with_reducible refine Ext.drew ?_) | (with_reducible refine Ext.drewL ?_) | refine Ext.trans ?_ (by assumption)))⟩
    · have e2 : objN g x = 0 := by unfold objN; rw [e1, if_neg he]
      have e3 : mNd g x = 0 := by unfold mNd; rw [if_neg he]
      rw [e2]
      have d1 : (hErr g x false == 0) = false := by simpa using he
      go_enter Try.func42, Try.ntmps42
      go_upto_region 2 with (go_at_call 45; refine (node45_any _ g x _ (hg.ext (by (repeat (first | (with_reducible exact Ext.refl _) | assumption | (with_reducible refine Ext.alloc ?_ _) | (with_reducible refine Ext.drew ?_) | (with_reducible refine Ext.drewL ?_) | refine Ext.trans ?_ (by assumption))))) hv.lu hv.lr).mono ?_; rintro e w1 ⟨rfl, hE⟩; rw [e3])
      go_wp2
      go_ret2
      exact ⟨rfl, by (repeat (first | (with_reducible exact Ext.refl _) | assumption | (with_reducible refine Ext.alloc ?_ _) | (with_reducible refine Ext.drew ?_) | (with_reducible refine Ext.drewL ?_) | refine Ext.trans ?_ (by assumption)))⟩

/-- what access answers -/
def AccR (base M o : Nat) (w : World) (y : Gr × Int × Int) (r : Ending) (w' : World) : Prop := r = .returned (.tuple #[.int .u64 y.2.2, .int .i64 y.2.1]) ∧ GSt base M o w' y.1 ∧ Fr base M w w'
set_option maxRecDepth 100000 in
set_option maxHeartbeats 1000000 in
theorem acc43_7 (base M o i m : Nat) (g : Gr) (x : List Int × List Int) (b d : Int) (w : World) (h : GSt base M o w g) (hv : Vld g) (hMw : M ≤ w.heap.size) (hi : i < 32) (hx : g.ns[m]? = some x) :
    Calls Try.prog 43 #[.pointer (some ⟨o, 0, none⟩), .int .i64 m, .agg #[.int .i64 7, .int .i64 ((i : Int) + 1), .int .i64 b, .int .i64 d]] w (AccR base M o w (⟨g.ns, g.us.set i false, g.rs.set i (-1)⟩, 0, 0)) := by
  have hlu := hv.lu
  have hlr := hv.lr
  obtain ⟨vA, vB, vC, ps, kO, hG, hM, hbo⟩ := h
  have hm := (List.getElem?_eq_some_iff.1 hx).1
  obtain ⟨bA, a1, rfl⟩ := own_at hG.nodes (by omega)
  obtain ⟨B1, b1, rfl⟩ := own_slice hG.used
  obtain ⟨C1, c1, rfl⟩ := own_slice hG.roots
  have hlen := hG.len
  obtain ⟨pp, hp⟩ : ∃ pp, ps[m]? = some pp := ⟨_, List.getElem?_eq_getElem (by omega)⟩
  obtain ⟨o1, o2⟩ := hG.each m pp x hp hx
  obtain ⟨p1, p2⟩ := pp
  obtain ⟨R, cR, hR⟩ := own_slice o1
  obtain ⟨D, cD, hD⟩ := own_slice o2
  simp only at hR hD
  subst hR
  subst hD
  obtain ⟨cA, fA⟩ := own_cells hG.nodes
  have qR := cA _ _ (vals_at ps m _ hp).1
  have qD := cA _ _ (vals_at ps m _ hp).2
  simp only at qR qD
  have Hp := Lib.hid hp
  have Hx := Lib.hid hx
  have mb : (m : Int) < g.ns.length := by omega
  go_enter Try.func43, Try.ntmps43
  go_upto_region 1 with fail
  have hX := Ext.alloc (Ext.refl w) (.cells #[.int .i64 7, .int .i64 ((i : Int) + 1), .int .i64 b, .int .i64 d] 37)
  have k5 : Blk (w.alloc (.cells #[.int .i64 7, .int .i64 ((i : Int) + 1), .int .i64 b, .int .i64 d] 37)) w.heap.size 37 #[.int .i64 7, .int .i64 ((i : Int) + 1), .int .i64 b, .int .i64 d] := Blk.new rfl
  generalize w.alloc (.cells #[.int .i64 7, .int .i64 ((i : Int) + 1), .int .i64 b, .int .i64 d] 37) = W at hX k5 ⊢
  have KO := kO.ext hX
  have HG := hG.ext hX
  have cO := KO.cell
  have c5 := k5.cell
  have l5 := k5.lt
  have lO := kO.lt
  replace qR := cell_ext hX qR
  replace qD := cell_ext hX qD
  have lA := cell_lt qR
  clear hp hx cA fA hlen
  refine wp_region_ext [(true, 0), (true, 1), (true, 2), (true, 3), (true, 4), (true, 5), (true, 6), (true, 7), (true, 8), (true, 9), (true, 10), (true, 11), (true, 12), (true, 13), (true, 14), (true, 15), (true, 16), (true, 17)] Try.mixed (by kernel_rfl) (by simp only [pick, List.filterMap_cons, List.filterMap_nil, List.getElem?_toArray, List.getElem?_cons_succ, List.getElem?_cons_zero, Option.map_some]; rfl) ?_
  intro hx
  repeat (first
    | (refine wpL_take hx (v := ?_) (by rfl) (fun _ hc => ?_) ?_
       rotate_left
       focus (go_simp; (try go_ints); exact rfl)
       simp only [Act.put, List.setIfInBounds_toArray, List.set_cons_zero, List.set_cons_succ])
    | (refine wpL_skip (by rfl) ?_; simp only [Act.put, List.setIfInBounds_toArray, List.set_cons_zero, List.set_cons_succ])
    | (refine wpL_call (by rfl) (fun K hK => ?_); go_simp; (first | (refine hK _ _ ?_ ?_; (focus ((repeat (first | (with_reducible exact Ext.refl _) | assumption | (with_reducible refine Ext.alloc ?_ _) | (with_reducible refine Ext.drew ?_) | (with_reducible refine Ext.drewL ?_) | refine Ext.trans ?_ (by assumption))); done))) | (refine hK undef _ ?_ ?_; (focus ((repeat (first | (with_reducible exact Ext.refl _) | assumption | (with_reducible refine Ext.alloc ?_ _) | (with_reducible refine Ext.drew ?_) | (with_reducible refine Ext.drewL ?_) | refine Ext.trans ?_ (by assumption))); done)))); clear hK; intro hr; replace hx := hx.trans hr; clear hr; try simp only [Act.put, List.setIfInBounds_toArray, List.set_cons_zero, List.set_cons_succ]))
  refine wpL_end ?_
  go_wp2_with fail
  obtain ⟨bB, bC, rfl, rfl, t1, t2, t3, t4, t5⟩ := HG.tabs (by omega) (by omega)
  obtain ⟨cB, fB⟩ := own_cells HG.used
  obtain ⟨cC, fC⟩ := own_cells HG.roots
  obtain ⟨u, hu⟩ : ∃ u, g.us[i]? = some u := ⟨_, List.getElem?_eq_getElem (by omega)⟩
  obtain ⟨r, hr⟩ : ∃ r, g.rs[i]? = some r := ⟨_, List.getElem?_eq_getElem (by omega)⟩
  have cBi := cB i _ (vb_at hu)
  have cCi := cC i _ (ints_at hr)
  have i0 : (i : Int) + 1 - 1 = i := by omega
  have i1 : i < g.us.length := by omega
  have i2 : (i : Int) < g.us.length := by omega
  have i3 : i < g.rs.length := by omega
  have i4 : (i : Int) < g.rs.length := by omega
  have t6 : bC ≠ bB := fun e => t1 e.symm
  have D1 : o ≠ bB := fun e => t2 e.symm
  have D2 : o ≠ bC := fun e => t3 e.symm
  have d3 : w.heap.size ≠ bB := by have := (hG.lt .B bB rfl).2; omega
  have d4 : w.heap.size ≠ bC := by have := (hG.lt .C bC rfl).2; omega
  clear cB cC hu hr hlu hlr hx qR qD o1 o2
  refine wp_region_treeB [bB, bC] (.take 0 (.take 1 (.take 2 (.take 3 (.take 4 (.take 5 (.take 6 (.take 7 (.take 8 (.take 9 (.take 10 (.take 11 (.take 12 (.take 13 (.take 14 (.alt 15 (.take 16 (.alt 17 .done .none)) .none)))))))))))))))) Try.mixed (by kernel_rfl) ?_
  intro hx hy
  first
    | (refine wpT_takeB hx (v := ?_) (List.getElem?_toArray.trans (by rfl)) (by rfl) (fun _ hc => ?_) ?_
       rotate_left
       focus (go_simp; (try go_ints); exact rfl)
       simp only [Act.put, List.setIfInBounds_toArray, List.set_cons_zero, List.set_cons_succ])
    | (refine wpT_skip (List.getElem?_toArray.trans (by rfl)) (by rfl) ?_; simp only [Act.put, List.setIfInBounds_toArray, List.set_cons_zero, List.set_cons_succ])
  first
    | (refine wpT_takeB hx (v := ?_) (List.getElem?_toArray.trans (by rfl)) (by rfl) (fun _ hc => ?_) ?_
       rotate_left
       focus (go_simp; (try go_ints); exact rfl)
       simp only [Act.put, List.setIfInBounds_toArray, List.set_cons_zero, List.set_cons_succ])
    | (refine wpT_skip (List.getElem?_toArray.trans (by rfl)) (by rfl) ?_; simp only [Act.put, List.setIfInBounds_toArray, List.set_cons_zero, List.set_cons_succ])
  first
    | (refine wpT_takeB hx (v := ?_) (List.getElem?_toArray.trans (by rfl)) (by rfl) (fun _ hc => ?_) ?_
       rotate_left
       focus (go_simp; (try go_ints); exact rfl)
       simp only [Act.put, List.setIfInBounds_toArray, List.set_cons_zero, List.set_cons_succ])
    | (refine wpT_skip (List.getElem?_toArray.trans (by rfl)) (by rfl) ?_; simp only [Act.put, List.setIfInBounds_toArray, List.set_cons_zero, List.set_cons_succ])
  first
    | (refine wpT_takeB hx (v := ?_) (List.getElem?_toArray.trans (by rfl)) (by rfl) (fun _ hc => ?_) ?_
       rotate_left
       focus (go_simp; (try go_ints); exact rfl)
       simp only [Act.put, List.setIfInBounds_toArray, List.set_cons_zero, List.set_cons_succ])
    | (refine wpT_skip (List.getElem?_toArray.trans (by rfl)) (by rfl) ?_; simp only [Act.put, List.setIfInBounds_toArray, List.set_cons_zero, List.set_cons_succ])
  first
    | (refine wpT_takeB hx (v := ?_) (List.getElem?_toArray.trans (by rfl)) (by rfl) (fun _ hc => ?_) ?_
       rotate_left
       focus (go_simp; (try go_ints); exact rfl)
       simp only [Act.put, List.setIfInBounds_toArray, List.set_cons_zero, List.set_cons_succ])
    | (refine wpT_skip (List.getElem?_toArray.trans (by rfl)) (by rfl) ?_; simp only [Act.put, List.setIfInBounds_toArray, List.set_cons_zero, List.set_cons_succ])
  first
    | (refine wpT_takeB hx (v := ?_) (List.getElem?_toArray.trans (by rfl)) (by rfl) (fun _ hc => ?_) ?_
       rotate_left
       focus (go_simp; (try go_ints); exact rfl)
       simp only [Act.put, List.setIfInBounds_toArray, List.set_cons_zero, List.set_cons_succ])
    | (refine wpT_skip (List.getElem?_toArray.trans (by rfl)) (by rfl) ?_; simp only [Act.put, List.setIfInBounds_toArray, List.set_cons_zero, List.set_cons_succ])
  first
    | (refine wpT_takeB hx (v := ?_) (List.getElem?_toArray.trans (by rfl)) (by rfl) (fun _ hc => ?_) ?_
       rotate_left
       focus (go_simp; (try go_ints); exact rfl)
       simp only [Act.put, List.setIfInBounds_toArray, List.set_cons_zero, List.set_cons_succ])
    | (refine wpT_skip (List.getElem?_toArray.trans (by rfl)) (by rfl) ?_; simp only [Act.put, List.setIfInBounds_toArray, List.set_cons_zero, List.set_cons_succ])
  first
    | (refine wpT_takeB hx (v := ?_) (List.getElem?_toArray.trans (by rfl)) (by rfl) (fun _ hc => ?_) ?_
       rotate_left
       focus (go_simp; (try go_ints); exact rfl)
       simp only [Act.put, List.setIfInBounds_toArray, List.set_cons_zero, List.set_cons_succ])
    | (refine wpT_skip (List.getElem?_toArray.trans (by rfl)) (by rfl) ?_; simp only [Act.put, List.setIfInBounds_toArray, List.set_cons_zero, List.set_cons_succ])
  first
    | (refine wpT_takeB hx (v := ?_) (List.getElem?_toArray.trans (by rfl)) (by rfl) (fun _ hc => ?_) ?_
       rotate_left
       focus (go_simp; (try go_ints); exact rfl)
       simp only [Act.put, List.setIfInBounds_toArray, List.set_cons_zero, List.set_cons_succ])
    | (refine wpT_skip (List.getElem?_toArray.trans (by rfl)) (by rfl) ?_; simp only [Act.put, List.setIfInBounds_toArray, List.set_cons_zero, List.set_cons_succ])
  first
    | (refine wpT_takeB hx (v := ?_) (List.getElem?_toArray.trans (by rfl)) (by rfl) (fun _ hc => ?_) ?_
       rotate_left
       focus (go_simp; (try go_ints); exact rfl)
       simp only [Act.put, List.setIfInBounds_toArray, List.set_cons_zero, List.set_cons_succ])
    | (refine wpT_skip (List.getElem?_toArray.trans (by rfl)) (by rfl) ?_; simp only [Act.put, List.setIfInBounds_toArray, List.set_cons_zero, List.set_cons_succ])
  first
    | (refine wpT_takeB hx (v := ?_) (List.getElem?_toArray.trans (by rfl)) (by rfl) (fun _ hc => ?_) ?_
       rotate_left
       focus (go_simp; (try go_ints); exact rfl)
       simp only [Act.put, List.setIfInBounds_toArray, List.set_cons_zero, List.set_cons_succ])
    | (refine wpT_skip (List.getElem?_toArray.trans (by rfl)) (by rfl) ?_; simp only [Act.put, List.setIfInBounds_toArray, List.set_cons_zero, List.set_cons_succ])
  first
    | (refine wpT_takeB hx (v := ?_) (List.getElem?_toArray.trans (by rfl)) (by rfl) (fun _ hc => ?_) ?_
       rotate_left
       focus (go_simp; (try go_ints); exact rfl)
       simp only [Act.put, List.setIfInBounds_toArray, List.set_cons_zero, List.set_cons_succ])
    | (refine wpT_skip (List.getElem?_toArray.trans (by rfl)) (by rfl) ?_; simp only [Act.put, List.setIfInBounds_toArray, List.set_cons_zero, List.set_cons_succ])
  first
    | (refine wpT_takeB hx (v := ?_) (List.getElem?_toArray.trans (by rfl)) (by rfl) (fun _ hc => ?_) ?_
       rotate_left
       focus (go_simp; (try go_ints); exact rfl)
       simp only [Act.put, List.setIfInBounds_toArray, List.set_cons_zero, List.set_cons_succ])
    | (refine wpT_skip (List.getElem?_toArray.trans (by rfl)) (by rfl) ?_; simp only [Act.put, List.setIfInBounds_toArray, List.set_cons_zero, List.set_cons_succ])
  first
    | (refine wpT_takeB hx (v := ?_) (List.getElem?_toArray.trans (by rfl)) (by rfl) (fun _ hc => ?_) ?_
       rotate_left
       focus (go_simp; (try go_ints); exact rfl)
       simp only [Act.put, List.setIfInBounds_toArray, List.set_cons_zero, List.set_cons_succ])
    | (refine wpT_skip (List.getElem?_toArray.trans (by rfl)) (by rfl) ?_; simp only [Act.put, List.setIfInBounds_toArray, List.set_cons_zero, List.set_cons_succ])
  first
    | (refine wpT_takeB hx (v := ?_) (List.getElem?_toArray.trans (by rfl)) (by rfl) (fun _ hc => ?_) ?_
       rotate_left
       focus (go_simp; (try go_ints); exact rfl)
       simp only [Act.put, List.setIfInBounds_toArray, List.set_cons_zero, List.set_cons_succ])
    | (refine wpT_skip (List.getElem?_toArray.trans (by rfl)) (by rfl) ?_; simp only [Act.put, List.setIfInBounds_toArray, List.set_cons_zero, List.set_cons_succ])
  refine wpT_store (List.getElem?_toArray.trans (by rfl)) rfl (by rfl) (fun K hK => ?_) ?_
  · skip
    have hcy := Ext.cell hy
    have hfy := Ext.froz hy
    go_simp
    refine hK _ ?_ ?_
    focus ((repeat (first | (with_reducible exact But.refl _ _) | assumption | (with_reducible refine But.drew ?_) | (with_reducible refine But.drewL ?_) | (with_reducible refine But.setCell ?_ ?_ _; rotate_left; (focus (simp; done))) | (with_reducible refine But.setCellL ?_ ?_; rotate_left; (focus (simp; done))) | (with_reducible refine But.alloc2 ?_ ?_; rotate_left; (focus (simp [World.setCell]; done))) | (with_reducible refine But.allocL ?_ ?_ ?_; rotate_left; (focus (simp; done)); (focus (simp; done))) | (with_reducible refine But.alloc ?_ _))); done)
    clear hK
    intro hr
    replace hx := hx.trans hr
    clear hr
    try simp only [Act.put, List.setIfInBounds_toArray, List.set_cons_zero, List.set_cons_succ]
    first
      | (refine wpT_takeB hx (v := ?_) (List.getElem?_toArray.trans (by rfl)) (by rfl) (fun _ hc => ?_) ?_
         rotate_left
         focus (go_simp; (try go_ints); exact rfl)
         simp only [Act.put, List.setIfInBounds_toArray, List.set_cons_zero, List.set_cons_succ])
      | (refine wpT_skip (List.getElem?_toArray.trans (by rfl)) (by rfl) ?_; simp only [Act.put, List.setIfInBounds_toArray, List.set_cons_zero, List.set_cons_succ])
    refine wpT_store (List.getElem?_toArray.trans (by rfl)) rfl (by rfl) (fun K hK => ?_) ?_
    · skip
      have hcy := Ext.cell hy
      have hfy := Ext.froz hy
      go_simp
      refine hK _ ?_ ?_
      focus ((repeat (first | (with_reducible exact But.refl _ _) | assumption | (with_reducible refine But.drew ?_) | (with_reducible refine But.drewL ?_) | (with_reducible refine But.setCell ?_ ?_ _; rotate_left; (focus (simp; done))) | (with_reducible refine But.setCellL ?_ ?_; rotate_left; (focus (simp; done))) | (with_reducible refine But.alloc2 ?_ ?_; rotate_left; (focus (simp [World.setCell]; done))) | (with_reducible refine But.allocL ?_ ?_ ?_; rotate_left; (focus (simp; done)); (focus (simp; done))) | (with_reducible refine But.alloc ?_ _))); done)
      clear hK
      intro hr
      replace hx := hx.trans hr
      clear hr
      try simp only [Act.put, List.setIfInBounds_toArray, List.set_cons_zero, List.set_cons_succ]
      refine wpT_done ?_
      go_wp2
      go_ret2
      have HG' := ((HG.ext (Ext.drew (Ext.drew (Ext.refl _)))).setU rfl i false).setC rfl i (-1)
      refine ⟨rfl, ⟨_, _, _, _, ?_, HG', hM, hbo⟩, ?_⟩
      · exact (KO.drew.drew.far (p := ⟨bB, i, none⟩) D1 (.bool false)).far (p := ⟨bC, i, none⟩) D2 (.int .i64 (-1))
      · exact Fr.set (Fr.set (Fr.of_ext (Ext.drew (Ext.drew hX))) (p := ⟨bB, i, none⟩) ⟨t4.1, hM .B bB rfl⟩ _) (p := ⟨bC, i, none⟩) ⟨t5.1, hM .C bC rfl⟩ _
    exact wpT_none
  exact wpT_none
end Go.Proofs.Ytamghjilcfeheaa
