/- The walk of Same on graphs that are equal. Conditions: the sizes that each theorem states. -/
import Derived.Test.YtamghjilcfeheaaMU
namespace Go.Proofs.Ytamghjilcfeheaa
open Go.RowKit Go.Draw

theorem rd_words {W : World} {A : Option Addr} {s : List Int} {k : Nat} {u : Int} (h : Rd W A s.length 1 (words s)) (hk : s[k]? = some u) : ∃ b o, A = some ⟨b, o, none⟩ ∧ W.cell? ⟨b, o + k, none⟩ = some (.int .u64 u) := by
  have hl := (List.getElem?_eq_some_iff.1 hk).1
  obtain ⟨b, o, v, hA, hu, hc⟩ := h.at_ hl
  rw [words_at hk] at hu
  injection hu with hu
  subst hu
  exact ⟨b, o, hA, hc⟩
set_option maxRecDepth 100000 in
set_option maxHeartbeats 2000000 in
theorem same21_any (v v' : Value) (g : Gr) (w : World) (hg : GRd w v g) (hg' : GRd w v' g) (hb : Bd g) : Calls Try.prog 21 #[v, v'] w fun r w' => r = .returned (.bool true) ∧ Ext w w' := by
  obtain ⟨A0, a0, B0, b0, C0, c0, rfl⟩ := hg.sl
  obtain ⟨A1, a1, B1, b1, C1, c1, rfl⟩ := hg'.sl
  have n1 := hb.1
  have n2 := hb.2.1
  have n3 := hb.2.2.1
  have Hb := Lib.hid hb.2.2.2
  clear hb
  have bn : (g.ns.length : Int) ≤ 1000 := by omega
  have bu : (g.us.length : Int) ≤ 1000 := by omega
  have br : (g.rs.length : Int) ≤ 1000 := by omega
  go_enter Try.func21, Try.ntmps21
  go_upto_region 1 with fail
  have hX : Ext w ((w.alloc (.cells #[.slice A0 g.ns.length a0, .slice B0 g.us.length b0, .slice C0 g.rs.length c0] 26)).alloc (.cells #[.slice A1 g.ns.length a1, .slice B1 g.us.length b1, .slice C1 g.rs.length c1] 26)) := by (repeat (first | (with_reducible exact Ext.refl _) | assumption | (with_reducible refine Ext.alloc ?_ _) | (with_reducible refine Ext.drew ?_) | (with_reducible refine Ext.drewL ?_) | refine Ext.trans ?_ (by assumption)))
  have k1 : Blk ((w.alloc (.cells #[.slice A0 g.ns.length a0, .slice B0 g.us.length b0, .slice C0 g.rs.length c0] 26)).alloc (.cells #[.slice A1 g.ns.length a1, .slice B1 g.us.length b1, .slice C1 g.rs.length c1] 26)) w.heap.size 26 #[.slice A0 g.ns.length a0, .slice B0 g.us.length b0, .slice C0 g.rs.length c0] := Blk.alloc (Blk.new rfl) _
  have k2 : Blk ((w.alloc (.cells #[.slice A0 g.ns.length a0, .slice B0 g.us.length b0, .slice C0 g.rs.length c0] 26)).alloc (.cells #[.slice A1 g.ns.length a1, .slice B1 g.us.length b1, .slice C1 g.rs.length c1] 26)) (w.heap.size + 1) 26 #[.slice A1 g.ns.length a1, .slice B1 g.us.length b1, .slice C1 g.rs.length c1] := Blk.new (by simp)
  generalize (w.alloc (.cells #[.slice A0 g.ns.length a0, .slice B0 g.us.length b0, .slice C0 g.rs.length c0] 26)).alloc (.cells #[.slice A1 g.ns.length a1, .slice B1 g.us.length b1, .slice C1 g.rs.length c1] 26) = W at hX k1 k2 ⊢
  have hgW := hg.ext hX
  have hgW' := hg'.ext hX
  obtain ⟨hU0, hC0⟩ := hgW.rows
  obtain ⟨hU1, hC1⟩ := hgW'.rows
  have m1 := k1.cell
  have m2 := k2.cell
  have l1 := k1.lt
  have l2 := k2.lt
  go_wp2_with fail
  go_loopw [40] (fun i wr => ∃ k : Nat, k ≤ g.us.length ∧ i = .int .i64 k ∧ Ext W wr) (fun i _ => g.us.length - (intOf i).toNat)
  case atStart => exact ⟨0, by omega, rfl, Ext.refl _⟩
  case round =>
    clear m1 m2 l1 l2
    obtain ⟨k, hk, rfl, hE⟩ := hrel
    have m1 := (k1.ext hE).cell
    have m2 := (k2.ext hE).cell
    have l1 := (k1.ext hE).lt
    have l2 := (k2.ext hE).lt
    by_cases hlt : k < g.us.length
    · have hdec : decide ((k : Int) < g.us.length) = true := by simp; omega
      have hdec' : decide (k < g.us.length) = true := by simp; omega
      have hkb : (k : Int) < g.us.length := by omega
      obtain ⟨u, hu⟩ : ∃ u, g.us[k]? = some u := ⟨_, List.getElem?_eq_getElem hlt⟩
      obtain ⟨bb, ob, hA, hcb⟩ := rd_vb (hU0.ext hE) hu
      cases hA
      obtain ⟨bc, oc, hC, hcc⟩ := rd_vb (hU1.ext hE) hu
      cases hC
      have lbb := cell_lt hcb
      have lbc := cell_lt hcc
      have huu : (u != u) = false := by cases u <;> rfl
      clear hu
      go_upto_region 6 with fail
      refine wp_region_ext [(true, 0), (true, 1), (true, 2), (true, 3), (true, 4), (true, 5), (true, 6), (true, 7), (true, 8), (true, 9), (true, 10)] Try.mixed (by kernel_rfl) (by simp only [pick, List.filterMap_cons, List.filterMap_nil, List.getElem?_toArray, List.getElem?_cons_succ, List.getElem?_cons_zero, Option.map_some]; rfl) ?_
      intro hx
      repeat (first
        | (refine wpL_take hx (v := ?_) (by rfl) (fun _ hc => ?_) ?_
           rotate_left
           focus (go_simp; (try go_ints); exact rfl)
           simp only [Act.put, List.setIfInBounds_toArray, List.set_cons_zero, List.set_cons_succ])
        | (refine wpL_skip (by rfl) ?_; simp only [Act.put, List.setIfInBounds_toArray, List.set_cons_zero, List.set_cons_succ])
        | (refine wpL_call (by rfl) (fun K hK => ?_); go_simp; (first | (refine hK _ _ ?_ ?_; (focus ((repeat (first | (with_reducible exact Ext.refl _) | assumption | (with_reducible refine Ext.alloc ?_ _) | (with_reducible refine Ext.drew ?_) | (with_reducible refine Ext.drewL ?_) | refine Ext.trans ?_ (by assumption))); done))) | (refine hK undef _ ?_ ?_; (focus ((repeat (first | (with_reducible exact Ext.refl _) | assumption | (with_reducible refine Ext.alloc ?_ _) | (with_reducible refine Ext.drew ?_) | (with_reducible refine Ext.drewL ?_) | refine Ext.trans ?_ (by assumption))); done)))); clear hK; intro hr; replace hx := hx.trans hr; clear hr; try simp only [Act.put, List.setIfInBounds_toArray, List.set_cons_zero, List.set_cons_succ]))
      refine wpL_end ?_
      go_wp2
      go_roundw
      case rel => exact ⟨k + 1, by omega, by go_num, by (repeat (first | (with_reducible exact Ext.refl _) | assumption | (with_reducible refine Ext.alloc ?_ _) | (with_reducible refine Ext.drew ?_) | (with_reducible refine Ext.drewL ?_) | refine Ext.trans ?_ (by assumption)))⟩
      case measure => simp [intOf]; omega
    · have hdec : decide ((k : Int) < g.us.length) = false := by simp; omega
      have hdec' : decide (k < g.us.length) = false := by simp; omega
      clear hU0 hU1
      go_wp2_with fail
      go_loopw [58] (fun i wr => ∃ k : Nat, k ≤ g.rs.length ∧ i = .int .i64 k ∧ Ext W wr) (fun i _ => g.rs.length - (intOf i).toNat)
      case atStart => exact ⟨0, by omega, rfl, hE⟩
      case round =>
        clear m1 m2 l1 l2 hE
        obtain ⟨k, hk, rfl, hE⟩ := hrel
        have m1 := (k1.ext hE).cell
        have m2 := (k2.ext hE).cell
        have l1 := (k1.ext hE).lt
        have l2 := (k2.ext hE).lt
        by_cases hlt : k < g.rs.length
        · have hdec : decide ((k : Int) < g.rs.length) = true := by simp; omega
          have hdec' : decide (k < g.rs.length) = true := by simp; omega
          have hkb : (k : Int) < g.rs.length := by omega
          obtain ⟨u, hu⟩ : ∃ u, g.rs[k]? = some u := ⟨_, List.getElem?_eq_getElem hlt⟩
          obtain ⟨bb, ob, hA, hcb⟩ := rd_ints (hC0.ext hE) hu
          cases hA
          obtain ⟨bc, oc, hC, hcc⟩ := rd_ints (hC1.ext hE) hu
          cases hC
          have lbb := cell_lt hcb
          have lbc := cell_lt hcc
          have huu : (u != u) = false := by simp
          clear hu
          go_upto_region 12 with fail
          refine wp_region_ext [(true, 0), (true, 1), (true, 2), (true, 3), (true, 4), (true, 5), (true, 6), (true, 7), (true, 8), (true, 9), (true, 10)] Try.mixed (by kernel_rfl) (by simp only [pick, List.filterMap_cons, List.filterMap_nil, List.getElem?_toArray, List.getElem?_cons_succ, List.getElem?_cons_zero, Option.map_some]; rfl) ?_
          intro hx
          repeat (first
            | (refine wpL_take hx (v := ?_) (by rfl) (fun _ hc => ?_) ?_
               rotate_left
               focus (go_simp; (try go_ints); exact rfl)
               simp only [Act.put, List.setIfInBounds_toArray, List.set_cons_zero, List.set_cons_succ])
            | (refine wpL_skip (by rfl) ?_; simp only [Act.put, List.setIfInBounds_toArray, List.set_cons_zero, List.set_cons_succ])
            | (refine wpL_call (by rfl) (fun K hK => ?_); go_simp; (first | (refine hK _ _ ?_ ?_; (focus ((repeat (first | (with_reducible exact Ext.refl _) | assumption | (with_reducible refine Ext.alloc ?_ _) | (with_reducible refine Ext.drew ?_) | (with_reducible refine Ext.drewL ?_) | refine Ext.trans ?_ (by assumption))); done))) | (refine hK undef _ ?_ ?_; (focus ((repeat (first | (with_reducible exact Ext.refl _) | assumption | (with_reducible refine Ext.alloc ?_ _) | (with_reducible refine Ext.drew ?_) | (with_reducible refine Ext.drewL ?_) | refine Ext.trans ?_ (by assumption))); done)))); clear hK; intro hr; replace hx := hx.trans hr; clear hr; try simp only [Act.put, List.setIfInBounds_toArray, List.set_cons_zero, List.set_cons_succ]))
          refine wpL_end ?_
          go_wp2
          go_roundw
          case rel => exact ⟨k + 1, by omega, by go_num, by (repeat (first | (with_reducible exact Ext.refl _) | assumption | (with_reducible refine Ext.alloc ?_ _) | (with_reducible refine Ext.drew ?_) | (with_reducible refine Ext.drewL ?_) | refine Ext.trans ?_ (by assumption)))⟩
          case measure => simp [intOf]; omega
        · have hdec : decide ((k : Int) < g.rs.length) = false := by simp; omega
          have hdec' : decide (k < g.rs.length) = false := by simp; omega
          clear hC0 hC1
          go_wp2_with fail
          go_loopw [76] (fun i wr => ∃ k : Nat, k ≤ g.ns.length ∧ i = .int .i64 k ∧ Ext W wr) (fun i _ => g.ns.length - (intOf i).toNat)
          case atStart => exact ⟨0, by omega, rfl, hE⟩
          case round =>
            clear m1 m2 l1 l2 hE hk hlt hdec hdec'
            obtain ⟨k, hk, rfl, hE⟩ := hrel
            have m1 := (k1.ext hE).cell
            have m2 := (k2.ext hE).cell
            have l1 := (k1.ext hE).lt
            have l2 := (k2.ext hE).lt
            by_cases hlt : k < g.ns.length
            · have hdec : decide ((k : Int) < g.ns.length) = true := by simp; omega
              have hdec' : decide (k < g.ns.length) = true := by simp; omega
              have hkb : (k : Int) < g.ns.length := by omega
              obtain ⟨x, hx0⟩ : ∃ x, g.ns[k]? = some x := ⟨_, List.getElem?_eq_getElem hlt⟩
              obtain ⟨ba, oa, R, cR, D, cD, hA, q0, q1, hR, hD, _⟩ := hgW.node hx0
              cases hA
              obtain ⟨ba', oa', R', cR', D', cD', hA', q0', q1', hR', hD', _⟩ := hgW'.node hx0
              cases hA'
              replace q0 := cell_ext hE q0
              replace q1 := cell_ext hE q1
              replace q0' := cell_ext hE q0'
              replace q1' := cell_ext hE q1'
              have lq := cell_lt q0
              have lq' := cell_lt q0'
              obtain ⟨x1, x2⟩ := Hb.out k x hx0
              clear hx0
              go_upto_region 19 with fail
              have hX6 : Ext wr ((wr.alloc (.cells #[.slice R x.1.length cR, .slice D x.2.length cD] 49)).alloc (.cells #[.slice R' x.1.length cR', .slice D' x.2.length cD'] 49)) := by (repeat (first | (with_reducible exact Ext.refl _) | assumption | (with_reducible refine Ext.alloc ?_ _) | (with_reducible refine Ext.drew ?_) | (with_reducible refine Ext.drewL ?_) | refine Ext.trans ?_ (by assumption)))
              have k8 : Blk ((wr.alloc (.cells #[.slice R x.1.length cR, .slice D x.2.length cD] 49)).alloc (.cells #[.slice R' x.1.length cR', .slice D' x.2.length cD'] 49)) wr.heap.size 49 #[.slice R x.1.length cR, .slice D x.2.length cD] := Blk.alloc (Blk.new rfl) _
              have k9 : Blk ((wr.alloc (.cells #[.slice R x.1.length cR, .slice D x.2.length cD] 49)).alloc (.cells #[.slice R' x.1.length cR', .slice D' x.2.length cD'] 49)) (wr.heap.size + 1) 49 #[.slice R' x.1.length cR', .slice D' x.2.length cD'] := Blk.new (by simp)
              generalize (wr.alloc (.cells #[.slice R x.1.length cR, .slice D x.2.length cD] 49)).alloc (.cells #[.slice R' x.1.length cR', .slice D' x.2.length cD'] 49) = W6 at hX6 k8 k9 ⊢
              generalize wr.heap.size + 1 = z9 at k9 ⊢
              generalize wr.heap.size = z8 at k8 ⊢
              have hE6 := hE.trans hX6
              have m8 := k8.cell
              have m9 := k9.cell
              have l8 := k8.lt
              have l9 := k9.lt
              clear m1 m2 l1 l2 q0 q1 q0' q1' lq lq'
              go_wp2_with fail
              go_loopw [105] (fun i wy => ∃ j : Nat, j ≤ x.1.length ∧ i = .int .i64 j ∧ Ext W6 wy) (fun i _ => x.1.length - (intOf i).toNat)
              case atStart => exact ⟨0, by omega, rfl, Ext.refl _⟩
              case round =>
                clear m8 m9 l8 l9
                obtain ⟨j, hj, rfl, hEy⟩ := hrel
                have m8 := (k8.ext hEy).cell
                have m9 := (k9.ext hEy).cell
                have l8 := (k8.ext hEy).lt
                have l9 := (k9.ext hEy).lt
                by_cases hjl : j < x.1.length
                · have jd : decide ((j : Int) < x.1.length) = true := by simp; omega
                  have jd' : decide (j < x.1.length) = true := by simp; omega
                  have jb : (j : Int) < x.1.length := by omega
                  obtain ⟨u, hu⟩ : ∃ u, x.1[j]? = some u := ⟨_, List.getElem?_eq_getElem hjl⟩
                  obtain ⟨bb, ob, hA, hcb⟩ := rd_ints (hR.ext (hE6.trans hEy)) hu
                  cases hA
                  obtain ⟨bc, oc, hC, hcc⟩ := rd_ints (hR'.ext (hE6.trans hEy)) hu
                  cases hC
                  have lbb := cell_lt hcb
                  have lbc := cell_lt hcc
                  have huu : (u != u) = false := by simp
                  clear hu
                  go_upto_region 24 with fail
                  refine wp_region_ext [(true, 0), (true, 1), (true, 2), (true, 3), (true, 4), (true, 5), (true, 6), (true, 7), (true, 8), (true, 9), (true, 10)] Try.mixed (by kernel_rfl) (by simp only [pick, List.filterMap_cons, List.filterMap_nil, List.getElem?_toArray, List.getElem?_cons_succ, List.getElem?_cons_zero, Option.map_some]; rfl) ?_
                  intro hx
                  repeat (first
                    | (refine wpL_take hx (v := ?_) (by rfl) (fun _ hc => ?_) ?_
                       rotate_left
                       focus (go_simp; (try go_ints); exact rfl)
                       simp only [Act.put, List.setIfInBounds_toArray, List.set_cons_zero, List.set_cons_succ])
                    | (refine wpL_skip (by rfl) ?_; simp only [Act.put, List.setIfInBounds_toArray, List.set_cons_zero, List.set_cons_succ])
                    | (refine wpL_call (by rfl) (fun K hK => ?_); go_simp; (first | (refine hK _ _ ?_ ?_; (focus ((repeat (first | (with_reducible exact Ext.refl _) | assumption | (with_reducible refine Ext.alloc ?_ _) | (with_reducible refine Ext.drew ?_) | (with_reducible refine Ext.drewL ?_) | refine Ext.trans ?_ (by assumption))); done))) | (refine hK undef _ ?_ ?_; (focus ((repeat (first | (with_reducible exact Ext.refl _) | assumption | (with_reducible refine Ext.alloc ?_ _) | (with_reducible refine Ext.drew ?_) | (with_reducible refine Ext.drewL ?_) | refine Ext.trans ?_ (by assumption))); done)))); clear hK; intro hr; replace hx := hx.trans hr; clear hr; try simp only [Act.put, List.setIfInBounds_toArray, List.set_cons_zero, List.set_cons_succ]))
                  refine wpL_end ?_
                  go_wp2
                  go_roundw
                  case rel => exact ⟨j + 1, by omega, by go_num, by (repeat (first | (with_reducible exact Ext.refl _) | assumption | (with_reducible refine Ext.alloc ?_ _) | (with_reducible refine Ext.drew ?_) | (with_reducible refine Ext.drewL ?_) | refine Ext.trans ?_ (by assumption)))⟩
                  case measure => simp [intOf]; omega
                · have jd : decide ((j : Int) < x.1.length) = false := by simp; omega
                  have jd' : decide (j < x.1.length) = false := by simp; omega
                  clear hR hR'
                  go_wp2_with fail
                  go_loopw [123] (fun i wy => ∃ j : Nat, j ≤ x.2.length ∧ i = .int .i64 j ∧ Ext W6 wy) (fun i _ => x.2.length - (intOf i).toNat)
                  case atStart => exact ⟨0, by omega, rfl, hEy⟩
                  case round =>
                    clear m8 m9 l8 l9 hEy
                    obtain ⟨j, hj, rfl, hEy⟩ := hrel
                    have m8 := (k8.ext hEy).cell
                    have m9 := (k9.ext hEy).cell
                    have l8 := (k8.ext hEy).lt
                    have l9 := (k9.ext hEy).lt
                    by_cases hjl : j < x.2.length
                    · have jd : decide ((j : Int) < x.2.length) = true := by simp; omega
                      have jd' : decide (j < x.2.length) = true := by simp; omega
                      have jb : (j : Int) < x.2.length := by omega
                      obtain ⟨u, hu⟩ : ∃ u, x.2[j]? = some u := ⟨_, List.getElem?_eq_getElem hjl⟩
                      obtain ⟨bb, ob, hA, hcb⟩ := rd_words (hD.ext (hE6.trans hEy)) hu
                      cases hA
                      obtain ⟨bc, oc, hC, hcc⟩ := rd_words (hD'.ext (hE6.trans hEy)) hu
                      cases hC
                      have lbb := cell_lt hcb
                      have lbc := cell_lt hcc
                      have huu : (u != u) = false := by simp
                      clear hu
                      go_upto_region 30 with fail
                      refine wp_region_ext [(true, 0), (true, 1), (true, 2), (true, 3), (true, 4), (true, 5), (true, 6), (true, 7), (true, 8), (true, 9), (true, 10)] Try.mixed (by kernel_rfl) (by simp only [pick, List.filterMap_cons, List.filterMap_nil, List.getElem?_toArray, List.getElem?_cons_succ, List.getElem?_cons_zero, Option.map_some]; rfl) ?_
                      intro hx
                      repeat (first
                        | (refine wpL_take hx (v := ?_) (by rfl) (fun _ hc => ?_) ?_
                           rotate_left
                           focus (go_simp; (try go_ints); exact rfl)
                           simp only [Act.put, List.setIfInBounds_toArray, List.set_cons_zero, List.set_cons_succ])
                        | (refine wpL_skip (by rfl) ?_; simp only [Act.put, List.setIfInBounds_toArray, List.set_cons_zero, List.set_cons_succ])
                        | (refine wpL_call (by rfl) (fun K hK => ?_); go_simp; (first | (refine hK _ _ ?_ ?_; (focus ((repeat (first | (with_reducible exact Ext.refl _) | assumption | (with_reducible refine Ext.alloc ?_ _) | (with_reducible refine Ext.drew ?_) | (with_reducible refine Ext.drewL ?_) | refine Ext.trans ?_ (by assumption))); done))) | (refine hK undef _ ?_ ?_; (focus ((repeat (first | (with_reducible exact Ext.refl _) | assumption | (with_reducible refine Ext.alloc ?_ _) | (with_reducible refine Ext.drew ?_) | (with_reducible refine Ext.drewL ?_) | refine Ext.trans ?_ (by assumption))); done)))); clear hK; intro hr; replace hx := hx.trans hr; clear hr; try simp only [Act.put, List.setIfInBounds_toArray, List.set_cons_zero, List.set_cons_succ]))
                      refine wpL_end ?_
                      go_wp2
                      go_roundw
                      case rel => exact ⟨j + 1, by omega, by go_num, by (repeat (first | (with_reducible exact Ext.refl _) | assumption | (with_reducible refine Ext.alloc ?_ _) | (with_reducible refine Ext.drew ?_) | (with_reducible refine Ext.drewL ?_) | refine Ext.trans ?_ (by assumption)))⟩
                      case measure => simp [intOf]; omega
                    · have jd : decide ((j : Int) < x.2.length) = false := by simp; omega
                      have jd' : decide (j < x.2.length) = false := by simp; omega
                      go_wp2_with fail
                      go_roundw
                      case rel => exact ⟨k + 1, by omega, by go_num, hE6.trans hEy⟩
                      case measure => simp [intOf]; omega
            · have hdec : decide ((k : Int) < g.ns.length) = false := by simp; omega
              have hdec' : decide (k < g.ns.length) = false := by simp; omega
              go_wp2
              go_ret
              exact ⟨rfl, hX.trans hE⟩
end Go.Proofs.Ytamghjilcfeheaa
