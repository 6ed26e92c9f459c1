/- The walks of SameInts and of Same for tables. Conditions: the ranges that each theorem states. -/
import Derived.Test.YtgjgnokfmjeekaaL
namespace Go.Proofs.Ytgjgnokfmjeekaa
open Go.RowKit Go.Draw

theorem eq_of_get {α : Type} {xs ys : List α} (hl : xs.length = ys.length) (h : ∀ j, j < xs.length → xs[j]? = ys[j]?) : xs = ys := by
  apply List.ext_getElem? 
  intro j
  by_cases hj : j < xs.length
  · exact h j hj
  · rw [List.getElem?_eq_none (by omega), List.getElem?_eq_none (by omega)]

set_option maxHeartbeats 1000000 in
theorem sameints_any (A B : Option Addr) (n m c d : Nat) (xs ys : List Int) (w : World) (hx : Rd w A n 1 (ints xs)) (hy : Rd w B m 1 (ints ys)) (hn : n ≤ 1000000000) (hm : m ≤ 1000000000) :
    Calls Try.prog 20 #[.slice A n c, .slice B m d] w fun r w' => r = .returned (.bool (decide (xs = ys))) ∧ Ext w w' := by
  have hxl : xs.length = n := by have := hx.1; simpa [ints] using this
  have hyl : ys.length = m := by have := hy.1; simpa [ints] using this
  by_cases hnm : n = m
  · subst hnm
    have Hxl := Lib.hid hxl
    have Hyl := Lib.hid hyl
    clear hxl hyl
    go_enter Try.func20, Try.ntmps20
    go_wp2
    go_loopw [13] (fun i wr => ∃ k : Nat, k ≤ n ∧ i = .int .i64 k ∧ Ext w wr ∧ ∀ j, j < k → xs[j]? = ys[j]?) (fun i _ => n - (intOf i).toNat)
    case atStart => exact ⟨0, by omega, rfl, by (repeat (first | (with_reducible exact Ext.refl _) | assumption | (with_reducible refine Ext.alloc ?_ _) | (with_reducible refine Ext.drew ?_) | (with_reducible refine Ext.drewL ?_) | refine Ext.trans ?_ (by assumption))), fun j hj => by omega⟩
    case round =>
      obtain ⟨k, hk, rfl, hE, hd⟩ := hrel
      have Hd := Lib.hid hd
      clear hd
      by_cases hlt : k < n
      · have hdec : decide ((k : Int) < n) = true := by simp; omega
        have hdec' : decide (k < n) = true := by simp; omega
        have hkb : (k : Int) < n := by omega
        obtain ⟨b, o, u, rfl, hku, hc⟩ := (hx.ext hE).at_ hlt
        obtain ⟨b', o', u', rfl, hku', hc'⟩ := (hy.ext hE).at_ hlt
        simp only [ints, List.getElem?_map, Option.map_eq_some_iff] at hku hku'
        obtain ⟨x, hx1, rfl⟩ := hku
        obtain ⟨y, hy1, rfl⟩ := hku'
        have Hx1 := Lib.hid hx1
        have Hy1 := Lib.hid hy1
        clear hx1 hy1
        by_cases hxy : x = y
        · subst hxy
          go_wp2
          refine wp_region_ext [(true, 0), (true, 1), (true, 2), (true, 3), (true, 4), (true, 5), (true, 6), (true, 7), (true, 8)] Try.mixed (by kernel_rfl) (by simp only [pick, List.filterMap_cons, List.filterMap_nil, List.getElem?_toArray, List.getElem?_cons_succ, List.getElem?_cons_zero, Option.map_some]; rfl) ?_
          intro hx
          repeat (first
            | (refine wpL_take hx (v := ?_) (by rfl) (fun _ hc => ?_) ?_
               rotate_left
               focus (go_simp; (try go_ints); exact rfl)
               simp only [Act.put, List.setIfInBounds_toArray, List.set_cons_zero, List.set_cons_succ])
            | (refine wpL_skip (by rfl) ?_; simp only [Act.put, List.setIfInBounds_toArray, List.set_cons_zero, List.set_cons_succ])
            | (refine wpL_call (by rfl) (fun K hK => ?_); go_simp; (first | (refine hK _ _ ?_ ?_; (focus ((repeat (first | (with_reducible exact Ext.refl _) | assumption | (with_reducible refine Ext.alloc ?_ _) | (with_reducible refine Ext.drew ?_) | (with_reducible refine Ext.drewL ?_) | refine Ext.trans ?_ (by assumption))); done))) | (refine hK undef _ ?_ ?_; (focus ((repeat (first | (with_reducible exact Ext.refl _) | assumption | (with_reducible refine Ext.alloc ?_ _) | (with_reducible refine Ext.drew ?_) | (with_reducible refine Ext.drewL ?_) | refine Ext.trans ?_ (by assumption))); done)))); clear hK; intro hr; replace hx := hx.trans hr; clear hr; try simp only [Act.put, List.setIfInBounds_toArray, List.set_cons_zero, List.set_cons_succ]))
          refine wpL_end ?_
          go_wp2
          go_roundw
          case rel => exact ⟨k + 1, by omega, by go_num, by (repeat (first | (with_reducible exact Ext.refl _) | assumption | (with_reducible refine Ext.alloc ?_ _) | (with_reducible refine Ext.drew ?_) | (with_reducible refine Ext.drewL ?_) | refine Ext.trans ?_ (by assumption))), fun j hj => by
            by_cases e : j = k
            · subst e; rw [Hx1.out, Hy1.out]
            · exact Hd.out j (by omega)⟩
          case measure => simp [intOf]; omega
        · have b1 : (x != y) = true := by simpa using hxy
          have hne : xs ≠ ys := by
            intro e
            subst e
            have h1 := Hx1.out
            rw [Hy1.out] at h1
            injection h1 with h1
            exact hxy h1.symm
          have Hne := Lib.hid (decide_eq_false hne)
          clear hxy hne
          go_wp2
          refine wp_region_ext [(true, 0), (true, 1), (true, 2), (true, 3), (true, 4), (true, 5), (true, 6), (true, 7), (true, 8)] Try.mixed (by kernel_rfl) (by simp only [pick, List.filterMap_cons, List.filterMap_nil, List.getElem?_toArray, List.getElem?_cons_succ, List.getElem?_cons_zero, Option.map_some]; rfl) ?_
          intro hx
          repeat (first
            | (refine wpL_take hx (v := ?_) (by rfl) (fun _ hc => ?_) ?_
               rotate_left
               focus (go_simp; (try go_ints); exact rfl)
               simp only [Act.put, List.setIfInBounds_toArray, List.set_cons_zero, List.set_cons_succ])
            | (refine wpL_skip (by rfl) ?_; simp only [Act.put, List.setIfInBounds_toArray, List.set_cons_zero, List.set_cons_succ])
            | (refine wpL_call (by rfl) (fun K hK => ?_); go_simp; (first | (refine hK _ _ ?_ ?_; (focus ((repeat (first | (with_reducible exact Ext.refl _) | assumption | (with_reducible refine Ext.alloc ?_ _) | (with_reducible refine Ext.drew ?_) | (with_reducible refine Ext.drewL ?_) | refine Ext.trans ?_ (by assumption))); done))) | (refine hK undef _ ?_ ?_; (focus ((repeat (first | (with_reducible exact Ext.refl _) | assumption | (with_reducible refine Ext.alloc ?_ _) | (with_reducible refine Ext.drew ?_) | (with_reducible refine Ext.drewL ?_) | refine Ext.trans ?_ (by assumption))); done)))); clear hK; intro hr; replace hx := hx.trans hr; clear hr; try simp only [Act.put, List.setIfInBounds_toArray, List.set_cons_zero, List.set_cons_succ]))
          refine wpL_end ?_
          go_wp2
          go_ret
          exact ⟨by rw [Hne.out]; rfl, by (repeat (first | (with_reducible exact Ext.refl _) | assumption | (with_reducible refine Ext.alloc ?_ _) | (with_reducible refine Ext.drew ?_) | (with_reducible refine Ext.drewL ?_) | refine Ext.trans ?_ (by assumption)))⟩
      · have hdec : decide ((k : Int) < n) = false := by simp; omega
        have hdec' : decide (k < n) = false := by simp; omega
        have heq : xs = ys := eq_of_get (by rw [Hxl.out, Hyl.out]) fun j hj => Hd.out j (by have := Hxl.out; omega)
        have Heq := Lib.hid (decide_eq_true heq)
        clear heq
        go_wp2
        go_ret
        exact ⟨by rw [Heq.out]; rfl, by (repeat (first | (with_reducible exact Ext.refl _) | assumption | (with_reducible refine Ext.alloc ?_ _) | (with_reducible refine Ext.drew ?_) | (with_reducible refine Ext.drewL ?_) | refine Ext.trans ?_ (by assumption)))⟩
  · have hne : xs ≠ ys := by intro e; subst e; omega
    have Hne := Lib.hid (decide_eq_false hne)
    have b1 : ((n : Int) != m) = true := by simp; omega
    have b2 : (n != m) = true := by simp; omega
    clear hne hnm hxl hyl
    go_enter Try.func20, Try.ntmps20
    go_wp2
    go_ret
    exact ⟨by rw [Hne.out]; rfl, by (repeat (first | (with_reducible exact Ext.refl _) | assumption | (with_reducible refine Ext.alloc ?_ _) | (with_reducible refine Ext.drew ?_) | (with_reducible refine Ext.drewL ?_) | refine Ext.trans ?_ (by assumption)))⟩
end Go.Proofs.Ytgjgnokfmjeekaa
