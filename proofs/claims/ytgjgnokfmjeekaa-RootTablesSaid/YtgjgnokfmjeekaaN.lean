/- The walk of Same for tables. Conditions: the ranges that each theorem states. -/
import Derived.Test.YtgjgnokfmjeekaaM
namespace Go.Proofs.Ytgjgnokfmjeekaa
open Go.RowKit Go.Draw

set_option maxHeartbeats 2000000 in
theorem same_any (A A' B B' : Option Addr) (n m n2 m2 c c' d d' : Nat) (us vs : List Bool) (rs ts : List Int) (w : World) (hu : Rd w A n 1 (bools us)) (hr : Rd w A' m 1 (words rs)) (hv : Rd w B n2 1 (bools vs)) (ht : Rd w B' m2 1 (words ts)) (hn : n ≤ 1000000000) (hm : m ≤ 1000000000) (hn2 : n2 ≤ 1000000000) (hm2 : m2 ≤ 1000000000) :
    Calls Try.prog 24 #[.agg #[.slice A n c, .slice A' m c'], .agg #[.slice B n2 d, .slice B' m2 d']] w fun r w' => r = .returned (.bool (decide (us = vs ∧ rs = ts))) ∧ Ext w w' := by
  have hul : us.length = n := by have := hu.1; simpa [bools] using this
  have hrl : rs.length = m := by have := hr.1; simpa [words] using this
  have hvl : vs.length = n2 := by have := hv.1; simpa [bools] using this
  have htl : ts.length = m2 := by have := ht.1; simpa [words] using this
  by_cases hnm : n = n2
  · by_cases hmm : m = m2
    · subst hnm
      subst hmm
      have Hul := Lib.hid hul
      have Hrl := Lib.hid hrl
      have Hvl := Lib.hid hvl
      have Htl := Lib.hid htl
      clear hul hrl hvl htl
      go_enter Try.func24, Try.ntmps24
      go_wp2
      go_loopw [26] (fun i wr => ∃ k : Nat, k ≤ n ∧ i = .int .i64 k ∧ Ext w wr ∧ Blk wr w.heap.size 30 #[.slice A n c, .slice A' m c'] ∧ Blk wr (w.heap.size + 1) 30 #[.slice B n d, .slice B' m d'] ∧ ∀ j, j < k → us[j]? = vs[j]?) (fun i _ => n - (intOf i).toNat)
      case atStart => exact ⟨0, by omega, rfl, by (repeat (first | (with_reducible exact Ext.refl _) | assumption | (with_reducible refine Ext.alloc ?_ _) | (with_reducible refine Ext.drew ?_) | (with_reducible refine Ext.drewL ?_) | refine Ext.trans ?_ (by assumption))), by (repeat (first | assumption | (with_reducible refine Blk.new ?_; (focus (simp; done))) | (with_reducible exact Blk.new rfl) | (with_reducible refine Blk.drew ?_) | (with_reducible refine Blk.alloc ?_ _) | refine Blk.ext ?_ (by assumption))), by (repeat (first | assumption | (with_reducible refine Blk.new ?_; (focus (simp; done))) | (with_reducible exact Blk.new rfl) | (with_reducible refine Blk.drew ?_) | (with_reducible refine Blk.alloc ?_ _) | refine Blk.ext ?_ (by assumption))), fun j hj => by omega⟩
      case round =>
        obtain ⟨k, hk, rfl, hE, hb1, hb2, hd⟩ := hrel
        have Hd := Lib.hid hd
        have hc1 := hb1.cell
        have hc2 := hb2.cell
        clear hd
        by_cases hlt : k < n
        · have hdec : decide ((k : Int) < n) = true := by simp; omega
          have hdec' : decide (k < n) = true := by simp; omega
          have hkb : (k : Int) < n := by omega
          obtain ⟨b, o, u, rfl, hku, hc⟩ := (hu.ext hE).at_ hlt
          obtain ⟨b', o', u', rfl, hku', hc'⟩ := (hv.ext hE).at_ hlt
          simp only [bools, List.getElem?_map, Option.map_eq_some_iff] at hku hku'
          obtain ⟨x, hx1, rfl⟩ := hku
          obtain ⟨y, hy1, rfl⟩ := hku'
          have Hx1 := Lib.hid hx1
          have Hy1 := Lib.hid hy1
          clear hx1 hy1
          by_cases hxy : x = y
          · subst hxy
            cases x
            · go_wp2
              refine wp_region_ext [(true, 0), (true, 1), (true, 2), (true, 3), (true, 4), (true, 5), (true, 6), (true, 7), (true, 8), (true, 9), (true, 10)] Try.mixed (by kernel_rfl) (by simp only [pick, List.filterMap_cons, List.filterMap_nil, List.getElem?_toArray, List.getElem?_cons_succ, List.getElem?_cons_zero, Option.map_some]; rfl) ?_
              intro hx
              repeat (first
                | (refine wpL_take hx (v := ?_) (by rfl) (fun _ hc => ?_) ?_
                   rotate_left
                   focus (go_simp; (try go_ints); exact rfl)
                   simp only [Act.put, List.setIfInBounds_toArray, List.set_cons_zero, List.set_cons_succ])
                | (refine wpL_skip (by rfl) ?_; simp only [Act.put, List.setIfInBounds_toArray, List.set_cons_zero, List.set_cons_succ])
                | (refine wpL_call (by rfl) (fun K hK => ?_); go_simp; (first | (refine hK _ _ ?_ ?_; (focus ((repeat (first | (with_reducible exact Ext.refl _) | assumption | (with_reducible refine Ext.alloc ?_ _) | (with_reducible refine Ext.drew ?_) | (with_reducible refine Ext.drewL ?_) | refine Ext.trans ?_ (by assumption))); done))) | (refine hK undef _ ?_ ?_; (focus ((repeat (first | (with_reducible exact Ext.refl _) | assumption | (with_reducible refine Ext.alloc ?_ _) | (with_reducible refine Ext.drew ?_) | (with_reducible refine Ext.drewL ?_) | refine Ext.trans ?_ (by assumption))); done)))); clear hK; intro hr; replace hx := hx.trans hr; clear hr; try simp only [Act.put, List.setIfInBounds_toArray, List.set_cons_zero, List.set_cons_succ]))
              refine wpL_end ?_
              go_wp2
              go_roundw
              case rel => exact ⟨k + 1, by omega, by go_num, by (repeat (first | (with_reducible exact Ext.refl _) | assumption | (with_reducible refine Ext.alloc ?_ _) | (with_reducible refine Ext.drew ?_) | (with_reducible refine Ext.drewL ?_) | refine Ext.trans ?_ (by assumption))), by (repeat (first | assumption | (with_reducible refine Blk.new ?_; (focus (simp; done))) | (with_reducible exact Blk.new rfl) | (with_reducible refine Blk.drew ?_) | (with_reducible refine Blk.alloc ?_ _) | refine Blk.ext ?_ (by assumption))), by (repeat (first | assumption | (with_reducible refine Blk.new ?_; (focus (simp; done))) | (with_reducible exact Blk.new rfl) | (with_reducible refine Blk.drew ?_) | (with_reducible refine Blk.alloc ?_ _) | refine Blk.ext ?_ (by assumption))), fun j hj => by
                by_cases e : j = k
                · subst e; rw [Hx1.out, Hy1.out]
                · exact Hd.out j (by omega)⟩
              case measure => simp [intOf]; omega
            · go_wp2
              refine wp_region_ext [(true, 0), (true, 1), (true, 2), (true, 3), (true, 4), (true, 5), (true, 6), (true, 7), (true, 8), (true, 9), (true, 10)] Try.mixed (by kernel_rfl) (by simp only [pick, List.filterMap_cons, List.filterMap_nil, List.getElem?_toArray, List.getElem?_cons_succ, List.getElem?_cons_zero, Option.map_some]; rfl) ?_
              intro hx
              repeat (first
                | (refine wpL_take hx (v := ?_) (by rfl) (fun _ hc => ?_) ?_
                   rotate_left
                   focus (go_simp; (try go_ints); exact rfl)
                   simp only [Act.put, List.setIfInBounds_toArray, List.set_cons_zero, List.set_cons_succ])
                | (refine wpL_skip (by rfl) ?_; simp only [Act.put, List.setIfInBounds_toArray, List.set_cons_zero, List.set_cons_succ])
                | (refine wpL_call (by rfl) (fun K hK => ?_); go_simp; (first | (refine hK _ _ ?_ ?_; (focus ((repeat (first | (with_reducible exact Ext.refl _) | assumption | (with_reducible refine Ext.alloc ?_ _) | (with_reducible refine Ext.drew ?_) | (with_reducible refine Ext.drewL ?_) | refine Ext.trans ?_ (by assumption))); done))) | (refine hK undef _ ?_ ?_; (focus ((repeat (first | (with_reducible exact Ext.refl _) | assumption | (with_reducible refine Ext.alloc ?_ _) | (with_reducible refine Ext.drew ?_) | (with_reducible refine Ext.drewL ?_) | refine Ext.trans ?_ (by assumption))); done)))); clear hK; intro hr; replace hx := hx.trans hr; clear hr; try simp only [Act.put, List.setIfInBounds_toArray, List.set_cons_zero, List.set_cons_succ]))
              refine wpL_end ?_
              go_wp2
              go_roundw
              case rel => exact ⟨k + 1, by omega, by go_num, by (repeat (first | (with_reducible exact Ext.refl _) | assumption | (with_reducible refine Ext.alloc ?_ _) | (with_reducible refine Ext.drew ?_) | (with_reducible refine Ext.drewL ?_) | refine Ext.trans ?_ (by assumption))), by (repeat (first | assumption | (with_reducible refine Blk.new ?_; (focus (simp; done))) | (with_reducible exact Blk.new rfl) | (with_reducible refine Blk.drew ?_) | (with_reducible refine Blk.alloc ?_ _) | refine Blk.ext ?_ (by assumption))), by (repeat (first | assumption | (with_reducible refine Blk.new ?_; (focus (simp; done))) | (with_reducible exact Blk.new rfl) | (with_reducible refine Blk.drew ?_) | (with_reducible refine Blk.alloc ?_ _) | refine Blk.ext ?_ (by assumption))), fun j hj => by
                by_cases e : j = k
                · subst e; rw [Hx1.out, Hy1.out]
                · exact Hd.out j (by omega)⟩
              case measure => simp [intOf]; omega
          · have b1 : (x != y) = true := by simpa using hxy
            have hne : ¬ (us = vs ∧ rs = ts) := by
              rintro ⟨e, _⟩
              subst e
              have h1 := Hx1.out
              rw [Hy1.out] at h1
              injection h1 with h1
              exact hxy h1.symm
            have Hne := Lib.hid (decide_eq_false hne)
            clear hne b1
            cases x with
            | true =>
              cases y with
              | true => exact absurd rfl hxy
              | false =>
                go_wp2
                refine wp_region_ext [(true, 0), (true, 1), (true, 2), (true, 3), (true, 4), (true, 5), (true, 6), (true, 7), (true, 8), (true, 9), (true, 10)] Try.mixed (by kernel_rfl) (by simp only [pick, List.filterMap_cons, List.filterMap_nil, List.getElem?_toArray, List.getElem?_cons_succ, List.getElem?_cons_zero, Option.map_some]; rfl) ?_
                intro hx
                repeat (first
                  | (refine wpL_take hx (v := ?_) (by rfl) (fun _ hc => ?_) ?_
                     rotate_left
                     focus (go_simp; (try go_ints); exact rfl)
                     simp only [Act.put, List.setIfInBounds_toArray, List.set_cons_zero, List.set_cons_succ])
                  | (refine wpL_skip (by rfl) ?_; simp only [Act.put, List.setIfInBounds_toArray, List.set_cons_zero, List.set_cons_succ])
                  | (refine wpL_call (by rfl) (fun K hK => ?_); go_simp; (first | (refine hK _ _ ?_ ?_; (focus ((repeat (first | (with_reducible exact Ext.refl _) | assumption | (with_reducible refine Ext.alloc ?_ _) | (with_reducible refine Ext.drew ?_) | (with_reducible refine Ext.drewL ?_) | refine Ext.trans ?_ (by assumption))); done))) | (refine hK undef _ ?_ ?_; (focus ((repeat (first | (with_reducible exact Ext.refl _) | assumption | (with_reducible refine Ext.alloc ?_ _) | (with_reducible refine Ext.drew ?_) | (with_reducible refine Ext.drewL ?_) | refine Ext.trans ?_ (by assumption))); done)))); clear hK; intro hr; replace hx := hx.trans hr; clear hr; try simp only [Act.put, List.setIfInBounds_toArray, List.set_cons_zero, List.set_cons_succ]))
                refine wpL_end ?_
                go_wp2
                go_ret
                exact ⟨by rw [Hne.out]; rfl, by (repeat (first | (with_reducible exact Ext.refl _) | assumption | (with_reducible refine Ext.alloc ?_ _) | (with_reducible refine Ext.drew ?_) | (with_reducible refine Ext.drewL ?_) | refine Ext.trans ?_ (by assumption)))⟩
            | false =>
              cases y with
              | false => exact absurd rfl hxy
              | true =>
                go_wp2
                refine wp_region_ext [(true, 0), (true, 1), (true, 2), (true, 3), (true, 4), (true, 5), (true, 6), (true, 7), (true, 8), (true, 9), (true, 10)] Try.mixed (by kernel_rfl) (by simp only [pick, List.filterMap_cons, List.filterMap_nil, List.getElem?_toArray, List.getElem?_cons_succ, List.getElem?_cons_zero, Option.map_some]; rfl) ?_
                intro hx
                repeat (first
                  | (refine wpL_take hx (v := ?_) (by rfl) (fun _ hc => ?_) ?_
                     rotate_left
                     focus (go_simp; (try go_ints); exact rfl)
                     simp only [Act.put, List.setIfInBounds_toArray, List.set_cons_zero, List.set_cons_succ])
                  | (refine wpL_skip (by rfl) ?_; simp only [Act.put, List.setIfInBounds_toArray, List.set_cons_zero, List.set_cons_succ])
                  | (refine wpL_call (by rfl) (fun K hK => ?_); go_simp; (first | (refine hK _ _ ?_ ?_; (focus ((repeat (first | (with_reducible exact Ext.refl _) | assumption | (with_reducible refine Ext.alloc ?_ _) | (with_reducible refine Ext.drew ?_) | (with_reducible refine Ext.drewL ?_) | refine Ext.trans ?_ (by assumption))); done))) | (refine hK undef _ ?_ ?_; (focus ((repeat (first | (with_reducible exact Ext.refl _) | assumption | (with_reducible refine Ext.alloc ?_ _) | (with_reducible refine Ext.drew ?_) | (with_reducible refine Ext.drewL ?_) | refine Ext.trans ?_ (by assumption))); done)))); clear hK; intro hr; replace hx := hx.trans hr; clear hr; try simp only [Act.put, List.setIfInBounds_toArray, List.set_cons_zero, List.set_cons_succ]))
                refine wpL_end ?_
                go_wp2
                go_ret
                exact ⟨by rw [Hne.out]; rfl, by (repeat (first | (with_reducible exact Ext.refl _) | assumption | (with_reducible refine Ext.alloc ?_ _) | (with_reducible refine Ext.drew ?_) | (with_reducible refine Ext.drewL ?_) | refine Ext.trans ?_ (by assumption)))⟩
        · have hdec : decide ((k : Int) < n) = false := by simp; omega
          have hdec' : decide (k < n) = false := by simp; omega
          have heq : us = vs := eq_of_get (by rw [Hul.out, Hvl.out]) fun j hj => Hd.out j (by have := Hul.out; omega)
          have Heq := Lib.hid heq
          clear heq
          go_wp2
          go_loopw [44] (fun i wr => ∃ k : Nat, k ≤ m ∧ i = .int .i64 k ∧ Ext w wr ∧ Blk wr w.heap.size 30 #[.slice A n c, .slice A' m c'] ∧ Blk wr (w.heap.size + 1) 30 #[.slice B n d, .slice B' m d'] ∧ ∀ j, j < k → rs[j]? = ts[j]?) (fun i _ => m - (intOf i).toNat)
          case atStart => exact ⟨0, by omega, rfl, hE, hb1, hb2, fun j hj => by omega⟩
          case round =>
            clear hc1 hc2 hb1 hb2 hE hdec hdec'
            obtain ⟨k, hk, rfl, hE, hb1, hb2, hd⟩ := hrel
            have Hd := Lib.hid hd
            have hc1 := hb1.cell
            have hc2 := hb2.cell
            clear hd
            by_cases hlt : k < m
            · have hdec : decide ((k : Int) < m) = true := by simp; omega
              have hdec' : decide (k < m) = true := by simp; omega
              have hkb : (k : Int) < m := by omega
              obtain ⟨b, o, u, rfl, hku, hc⟩ := (hr.ext hE).at_ hlt
              obtain ⟨b', o', u', rfl, hku', hc'⟩ := (ht.ext hE).at_ hlt
              simp only [words, List.getElem?_map, Option.map_eq_some_iff] at hku hku'
              obtain ⟨x, hx1, rfl⟩ := hku
              obtain ⟨y, hy1, rfl⟩ := hku'
              have Hx1 := Lib.hid hx1
              have Hy1 := Lib.hid hy1
              clear hx1 hy1
              by_cases hxy : x = y
              · subst hxy
                go_wp2
                refine wp_region_ext [(true, 0), (true, 1), (true, 2), (true, 3), (true, 4), (true, 5), (true, 6), (true, 7), (true, 8), (true, 9), (true, 10)] Try.mixed (by kernel_rfl) (by simp only [pick, List.filterMap_cons, List.filterMap_nil, List.getElem?_toArray, List.getElem?_cons_succ, List.getElem?_cons_zero, Option.map_some]; rfl) ?_
                intro hx
                repeat (first
                  | (refine wpL_take hx (v := ?_) (by rfl) (fun _ hc => ?_) ?_
                     rotate_left
                     focus (go_simp; (try go_ints); exact rfl)
                     simp only [Act.put, List.setIfInBounds_toArray, List.set_cons_zero, List.set_cons_succ])
                  | (refine wpL_skip (by rfl) ?_; simp only [Act.put, List.setIfInBounds_toArray, List.set_cons_zero, List.set_cons_succ])
                  | (refine wpL_call (by rfl) (fun K hK => ?_); go_simp; (first | (refine hK _ _ ?_ ?_; (focus ((repeat (first | (with_reducible exact Ext.refl _) | assumption | (with_reducible refine Ext.alloc ?_ _) | (with_reducible refine Ext.drew ?_) | (with_reducible refine Ext.drewL ?_) | refine Ext.trans ?_ (by assumption))); done))) | (refine hK undef _ ?_ ?_; (focus ((repeat (first | (with_reducible exact Ext.refl _) | assumption | (with_reducible refine Ext.alloc ?_ _) | (with_reducible refine Ext.drew ?_) | (with_reducible refine Ext.drewL ?_) | refine Ext.trans ?_ (by assumption))); done)))); clear hK; intro hr; replace hx := hx.trans hr; clear hr; try simp only [Act.put, List.setIfInBounds_toArray, List.set_cons_zero, List.set_cons_succ]))
                refine wpL_end ?_
                go_wp2
                go_roundw
                case rel => exact ⟨k + 1, by omega, by go_num, by (repeat (first | (with_reducible exact Ext.refl _) | assumption | (with_reducible refine Ext.alloc ?_ _) | (with_reducible refine Ext.drew ?_) | (with_reducible refine Ext.drewL ?_) | refine Ext.trans ?_ (by assumption))), by (repeat (first | assumption | (with_reducible refine Blk.new ?_; (focus (simp; done))) | (with_reducible exact Blk.new rfl) | (with_reducible refine Blk.drew ?_) | (with_reducible refine Blk.alloc ?_ _) | refine Blk.ext ?_ (by assumption))), by (repeat (first | assumption | (with_reducible refine Blk.new ?_; (focus (simp; done))) | (with_reducible exact Blk.new rfl) | (with_reducible refine Blk.drew ?_) | (with_reducible refine Blk.alloc ?_ _) | refine Blk.ext ?_ (by assumption))), fun j hj => by
                  by_cases e : j = k
                  · subst e; rw [Hx1.out, Hy1.out]
                  · exact Hd.out j (by omega)⟩
                case measure => simp [intOf]; omega
              · have b1 : (x != y) = true := by simpa using hxy
                have hne : ¬ (us = vs ∧ rs = ts) := by
                  rintro ⟨_, e⟩
                  subst e
                  have h1 := Hx1.out
                  rw [Hy1.out] at h1
                  injection h1 with h1
                  exact hxy h1.symm
                have Hne := Lib.hid (decide_eq_false hne)
                clear hxy hne
                go_wp2
                refine wp_region_ext [(true, 0), (true, 1), (true, 2), (true, 3), (true, 4), (true, 5), (true, 6), (true, 7), (true, 8), (true, 9), (true, 10)] Try.mixed (by kernel_rfl) (by simp only [pick, List.filterMap_cons, List.filterMap_nil, List.getElem?_toArray, List.getElem?_cons_succ, List.getElem?_cons_zero, Option.map_some]; rfl) ?_
                intro hx
                repeat (first
                  | (refine wpL_take hx (v := ?_) (by rfl) (fun _ hc => ?_) ?_
                     rotate_left
                     focus (go_simp; (try go_ints); exact rfl)
                     simp only [Act.put, List.setIfInBounds_toArray, List.set_cons_zero, List.set_cons_succ])
                  | (refine wpL_skip (by rfl) ?_; simp only [Act.put, List.setIfInBounds_toArray, List.set_cons_zero, List.set_cons_succ])
                  | (refine wpL_call (by rfl) (fun K hK => ?_); go_simp; (first | (refine hK _ _ ?_ ?_; (focus ((repeat (first | (with_reducible exact Ext.refl _) | assumption | (with_reducible refine Ext.alloc ?_ _) | (with_reducible refine Ext.drew ?_) | (with_reducible refine Ext.drewL ?_) | refine Ext.trans ?_ (by assumption))); done))) | (refine hK undef _ ?_ ?_; (focus ((repeat (first | (with_reducible exact Ext.refl _) | assumption | (with_reducible refine Ext.alloc ?_ _) | (with_reducible refine Ext.drew ?_) | (with_reducible refine Ext.drewL ?_) | refine Ext.trans ?_ (by assumption))); done)))); clear hK; intro hr; replace hx := hx.trans hr; clear hr; try simp only [Act.put, List.setIfInBounds_toArray, List.set_cons_zero, List.set_cons_succ]))
                refine wpL_end ?_
                go_wp2
                go_ret
                exact ⟨by rw [Hne.out]; rfl, by (repeat (first | (with_reducible exact Ext.refl _) | assumption | (with_reducible refine Ext.alloc ?_ _) | (with_reducible refine Ext.drew ?_) | (with_reducible refine Ext.drewL ?_) | refine Ext.trans ?_ (by assumption)))⟩
            · have hdec : decide ((k : Int) < m) = false := by simp; omega
              have hdec' : decide (k < m) = false := by simp; omega
              have heq : rs = ts := eq_of_get (by rw [Hrl.out, Htl.out]) fun j hj => Hd.out j (by have := Hrl.out; omega)
              have Hall := Lib.hid (decide_eq_true (And.intro Heq.out heq))
              clear heq
              go_wp2
              go_ret
              exact ⟨by rw [Hall.out]; rfl, by (repeat (first | (with_reducible exact Ext.refl _) | assumption | (with_reducible refine Ext.alloc ?_ _) | (with_reducible refine Ext.drew ?_) | (with_reducible refine Ext.drewL ?_) | refine Ext.trans ?_ (by assumption)))⟩
    · have hne : ¬ (us = vs ∧ rs = ts) := by rintro ⟨_, e⟩; subst e; omega
      have Hne := Lib.hid (decide_eq_false hne)
      have b1 : ((m : Int) != m2) = true := by simp; omega
      have b2 : (m != m2) = true := by simp; omega
      subst hnm
      clear hne hmm hul hrl hvl htl
      go_enter Try.func24, Try.ntmps24
      go_wp2
      go_ret
      exact ⟨by rw [Hne.out]; rfl, by (repeat (first | (with_reducible exact Ext.refl _) | assumption | (with_reducible refine Ext.alloc ?_ _) | (with_reducible refine Ext.drew ?_) | (with_reducible refine Ext.drewL ?_) | refine Ext.trans ?_ (by assumption)))⟩
  · have hne : ¬ (us = vs ∧ rs = ts) := by rintro ⟨e, _⟩; subst e; omega
    have Hne := Lib.hid (decide_eq_false hne)
    have b1 : ((n : Int) != n2) = true := by simp; omega
    have b2 : (n != n2) = true := by simp; omega
    clear hne hnm hul hrl hvl htl
    go_enter Try.func24, Try.ntmps24
    go_wp2
    go_ret
    exact ⟨by rw [Hne.out]; rfl, by (repeat (first | (with_reducible exact Ext.refl _) | assumption | (with_reducible refine Ext.alloc ?_ _) | (with_reducible refine Ext.drew ?_) | (with_reducible refine Ext.drewL ?_) | refine Ext.trans ?_ (by assumption)))⟩
end Go.Proofs.Ytgjgnokfmjeekaa
