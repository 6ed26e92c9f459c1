/- The walk of the law StatsBest. Conditions: the ranges that each theorem states. -/
import Derived.Test.YtdacclclalhbaaaG
import Derived.LoopN
namespace Go.Proofs.Ytdacclclalhbaaa
open Go.RowKit Go.Draw

theorem Try.el25 : Elem Try.prog 25 28 (.agg #[.int .i64 0, .int .i64 0, .int .i64 0, .int .i64 0, .int .i64 0, .int .i64 0, .int .i64 0, .int .i64 0, .int .i64 0]) 9 72 := ⟨Try.underlying25, by kernel_rfl, rfl, by omega⟩
theorem own_butb {w w' : World} {base : Nat} {e : TypeId} {v : Value} {S : List Nat} {n size : Nat} {xs : List Value} (h : w.ownsRow base e size v n xs) (he : But S w w') (hS : ∀ x ∈ S, x < base) : w'.ownsRow base e size v n xs := by
  refine own_but h he fun g hg hm => ?_
  rcases h.2 with ⟨h0, _⟩ | ⟨k, cap, cur, hv, hb, _⟩
  · subst h0; simp [Value.ownBlock] at hg
  · subst hv
    simp only [Value.ownBlock, Option.some.injEq] at hg
    subst hg
    have := hS _ hm
    omega
theorem dk_grown {w w' : World} {d base : Nat} {e : TypeId} {v : Value} {n size : Nat} {xs : List Value} (h : Dk w d) (hg : w.grownBy w' v.ownBlock) (ho : w.ownsRow base e size v n xs) (hd : d < base) : Dk w' d := by
  rcases ho.2 with ⟨h0, _⟩ | ⟨k, cap, cur, hv, hb, _⟩
  · exact h.ext (ext_of_grown hg h0)
  · subst hv
    exact h.but (but_of_grown hg) (fun x hx => by simp only [List.mem_singleton] at hx; omega)

theorem bst_min (K : Nat → Nat) : ∀ k, 0 < k → ∀ i, i < k → K (bst K k) ≤ K i ∧ (i < bst K k → K (bst K k) < K i)
  | 0, h, _, _ => by omega
  | k + 1, _, i, hi => by
    by_cases h0 : k = 0
    · subst h0
      obtain rfl : i = 0 := by omega
      have e : bst K (0 + 1) = 0 := rfl
      rw [e]
      exact ⟨Nat.le_refl _, fun h => by omega⟩
    · have ih := fun i hi => bst_min K k (by omega) i hi
      unfold bst
      rw [if_neg h0]
      split
      · rename_i h1
        refine ⟨?_, fun h => ?_⟩
        · by_cases e : i = k
          · subst e; exact Nat.le_refl _
          · have := (ih i (by omega)).1; omega
        · have := (ih i (by omega)).1; omega
      · rename_i h1
        by_cases e : i = k
        · subst e
          have hb := bst_lt K i (by omega)
          exact ⟨by omega, fun h => by omega⟩
        · exact ih i (by omega)

set_option maxRecDepth 100000 in
set_option maxHeartbeats 2000000 in
theorem statsbest_any (A : Option Addr) (n c : Nat) (zs : List Int) (w : World) (hz : Rd w A n 1 (ints zs)) (hn : n ≤ 9223372036854775807) :
    Calls Try.prog 3 #[.slice A n c] w fun r w' => r = .returned (.bool true) ∧ Ext w w' := by
  go_enter Try.func3, Try.ntmps3
  go_wp2_with fail
  go_at_call 6
  refine (deck_any A n c zs _ hz hn).mono ?_
  rintro e w1 ⟨rfl, hD, hE1⟩
  have hdl := hD.lt
  go_wp2_with fail
  go_at_call 7
  refine (next_any _ 7 _ hD (by omega) (by omega)).mono ?_
  rintro e w2 ⟨x, rfl, hx0, hx7, hD2, hB2⟩
  obtain ⟨q, rfl⟩ : ∃ q : Nat, x = (q : Int) := ⟨x.toNat, by omega⟩
  have hz2 := hB2.size
  have hE2 : Ext w w2 := But.ext hE1 hB2 (by simp)
  clear hD hB2 hE1 hz
  go_wp2_with fail
  go_loopw [4, 5] (fun s i wr => ∃ (k : Nat) (l : List (Nat → Int)) (B : Option Addr) (d : Nat), i = .int .i64 k ∧ k + l.length ≤ 6 ∧ s = .slice B l.length d ∧ wr.ownsRow w1.heap.size 28 9 (.slice B l.length d) l.length (flat l) ∧ Dk wr w.heap.size ∧ (∀ a ∈ l, Cnts a) ∧ w1.heap.size ≤ wr.heap.size ∧ Ext w wr) (fun _ i _ => (intOf i).toNat)
  case atStart => exact ⟨q, [], none, 0, rfl, by simp; omega, rfl, own_nil _ _ _ _, hD2, by simp, hz2, hE2⟩
  case round =>
    obtain ⟨k, l, B, d, rfl, hkl, rfl, hown, hD, hc, hzr, hE⟩ := hrel
    clear hD2 hE2 hz2
    by_cases hk : 0 < k
    · have hdec : decide ((0 : Int) < k) = true := by simp; omega
      have hdec' : decide (0 < k) = true := by simp; omega
      go_wp2_with fail
      go_at_call 8
      refine (counts_any _ _ hD).mono ?_
      rintro e w3 ⟨a, rfl, hca, hD3, hB3⟩
      have hown2 := own_butb hown hB3 (by simp; omega)
      have hE3 : Ext w w3 := But.ext hE hB3 (by simp)
      have hz3 := hB3.size
      simp only [stV]
      clear hown hD hE hB3
      go_wp2_with (first | (at_builtin; refine wpList_append rfl Try.el25 _ _ rfl w1.heap.size _ _ _ rfl (own_alloc hown2 _) _ 1 1 [.int .i64 (a 0), .int .i64 (a 1), .int .i64 (a 2), .int .i64 (a 3), .int .i64 (a 4), .int .i64 (a 5), .int .i64 (a 6), .int .i64 (a 7), .int .i64 (a 8)] rfl (rd_new _ _ _ 1 9 rfl) (by simp [Value.oneCell']) (by omega) (by omega) (by simp; omega) ?_; intro A3 c3 w4 hown3 hg3 hat3))
      have hE4 : Ext w w4 := ext_grown (by (repeat (first | (with_reducible exact Ext.refl _) | assumption | (with_reducible refine Ext.alloc ?_ _) | (with_reducible refine Ext.drew ?_) | (with_reducible refine Ext.drewL ?_) | refine Ext.trans ?_ (by assumption)))) hg3 (own_alloc hown2 _) (by omega)
      have hD4 := dk_grown (hD3.ext (by (repeat (first | (with_reducible exact Ext.refl _) | assumption | (with_reducible refine Ext.alloc ?_ _) | (with_reducible refine Ext.drew ?_) | (with_reducible refine Ext.drewL ?_) | refine Ext.trans ?_ (by assumption))))) hg3 (own_alloc hown2 _) hdl
      have hz4 := hg3.size
      have hfl : flat l ++ [.int .i64 (a 0), .int .i64 (a 1), .int .i64 (a 2), .int .i64 (a 3), .int .i64 (a 4), .int .i64 (a 5), .int .i64 (a 6), .int .i64 (a 7), .int .i64 (a 8)] = flat (l ++ [a]) := (flat_snoc l a).symm
      rw [hfl] at hown3
      go_roundw
      case rel => exact ⟨k - 1, l ++ [a], A3, c3, by go_num, by simp; omega, by simp, by simpa using hown3, hD4, fun y hy => by
        rcases List.mem_append.1 hy with h | h
        · exact hc y h
        · simp only [List.mem_singleton] at h; subst h; exact hca, by simp at hz4; omega, hE4⟩
      case measure => simp [intOf]; omega
    · have hdec : decide ((0 : Int) < k) = false := by simp; omega
      have hdec' : decide (0 < k) = false := by simp; omega
      have hR := Rd.of_own hown
      have hne : (bestI (costAt l) l.length != bestI (costAt l) l.length) = false := by simp
      have hnl : l.length ≤ 6 := by omega
      by_cases h0 : l.length = 0
      · have hb : bestI (costAt l) l.length = -1 := by unfold bestI; rw [if_pos h0]
        have h00 : ((l.length : Int) == 0) = true := by rw [h0]; rfl
        have h00' : (l.length == 0) = true := by rw [h0]; rfl
        have d1 : decide ((-1 : Int) < 0) = true := by decide
        have Hb := Lib.hid hb
        clear hk h0
        go_wp2_with fail
        go_at_call 9
        refine (best_any _ _ _ l _ (hR.ext (by (repeat (first | (with_reducible exact Ext.refl _) | assumption | (with_reducible refine Ext.alloc ?_ _) | (with_reducible refine Ext.drew ?_) | (with_reducible refine Ext.drewL ?_) | refine Ext.trans ?_ (by assumption))))) rfl (by omega) hc).mono ?_
        rintro e w3 ⟨rfl, hE3⟩
        rw [Hb.out]
        go_wp2_with fail
        go_at_call 10
        refine (rbest_any _ _ _ l _ (hR.ext (by (repeat (first | (with_reducible exact Ext.refl _) | assumption | (with_reducible refine Ext.alloc ?_ _) | (with_reducible refine Ext.drew ?_) | (with_reducible refine Ext.drewL ?_) | refine Ext.trans ?_ (by assumption))))) rfl (by omega) hc).mono ?_
        rintro e w4 ⟨rfl, hE4⟩
        rw [Hb.out]
        go_wp2_with (first | (go_at_call 11; refine (awake_any _).mono ?_; rintro e w1 ⟨rfl, hE8⟩))
        go_ret
        exact ⟨rfl, by (repeat (first | (with_reducible exact Ext.refl _) | assumption | (with_reducible refine Ext.alloc ?_ _) | (with_reducible refine Ext.drew ?_) | (with_reducible refine Ext.drewL ?_) | refine Ext.trans ?_ (by assumption)))⟩
      · obtain ⟨p, hp⟩ : ∃ p, bst (costAt l) l.length = p := ⟨_, rfl⟩
        have hpl : p < l.length := by have := bst_lt (costAt l) l.length (by omega); omega
        have hb : bestI (costAt l) l.length = (p : Int) := by unfold bestI; rw [if_neg h0, hp]
        have hmin := bst_min (costAt l) l.length (by omega)
        rw [hp] at hmin
        have h00 : decide ((p : Int) < 0) = false := by simp
        have hpp : ((p : Int) != p) = false := by simp
        have Hb := Lib.hid hb
        have Hmin := Lib.hid hmin
        obtain ⟨a', ha'⟩ : ∃ a', l[p]? = some a' := ⟨_, List.getElem?_eq_getElem hpl⟩
        have hca' : Cnts a' := hc a' (List.mem_of_getElem? ha')
        have Hpa := Lib.hid (show costAt l p = costK a' by unfold costAt; rw [ha'])
        have Ha' := Lib.hid ha'
        have hpI : (p : Int) < l.length := by omega
        clear hk h0 hb hmin hp ha' hne
        go_wp2_with fail
        go_at_call 9
        refine (best_any _ _ _ l _ (hR.ext (by (repeat (first | (with_reducible exact Ext.refl _) | assumption | (with_reducible refine Ext.alloc ?_ _) | (with_reducible refine Ext.drew ?_) | (with_reducible refine Ext.drewL ?_) | refine Ext.trans ?_ (by assumption))))) rfl (by omega) hc).mono ?_
        rintro e w3 ⟨rfl, hE3⟩
        rw [Hb.out]
        go_wp2_with fail
        go_at_call 10
        refine (rbest_any _ _ _ l _ (hR.ext (by (repeat (first | (with_reducible exact Ext.refl _) | assumption | (with_reducible refine Ext.alloc ?_ _) | (with_reducible refine Ext.drew ?_) | (with_reducible refine Ext.drewL ?_) | refine Ext.trans ?_ (by assumption))))) rfl (by omega) hc).mono ?_
        rintro e w4 ⟨rfl, hE4⟩
        rw [Hb.out]
        have hE04 : Ext w w4 := by (repeat (first | (with_reducible exact Ext.refl _) | assumption | (with_reducible refine Ext.alloc ?_ _) | (with_reducible refine Ext.drew ?_) | (with_reducible refine Ext.drewL ?_) | refine Ext.trans ?_ (by assumption)))
        have hR := hR.ext (hE3.trans hE4)
        rename World => wn
        clear hE3 hE4 hE hown hD hzr
        go_wp2_with fail
        go_loopw [39] (fun i wr => ∃ k : Nat, k ≤ l.length ∧ i = .int .i64 k ∧ Ext wn wr) (fun i _ => l.length - (intOf i).toNat)
        case atStart => exact ⟨0, by omega, rfl, Ext.refl _⟩
        case round =>
          obtain ⟨k, hk, rfl, hE⟩ := hrel
          by_cases hlt : k < l.length
          · have hdec : decide ((k : Int) < l.length) = true := by simp; omega
            have hdec' : decide (k < l.length) = true := by simp; omega
            have hkb : (k : Int) < l.length := by omega
            obtain ⟨a, ha⟩ : ∃ a, l[k]? = some a := ⟨_, List.getElem?_eq_getElem hlt⟩
            have hca : Cnts a := hc a (List.mem_of_getElem? ha)
            have Hka := Lib.hid (show costAt l k = costK a by unfold costAt; rw [ha])
            obtain ⟨hm1, hm2⟩ := Hmin.out k hlt
            rw [Hka.out, Hpa.out] at hm1 hm2
            obtain ⟨b, o, rfl, hcell⟩ := elem_at (hR.ext hE) ha hlt
            have c0 : wr.cell? ⟨b, o + k * 9, none⟩ = some (.int .i64 (a 0)) := hcell 0 (by omega)
            have c1 := hcell 1 (by omega)
            have c2 := hcell 2 (by omega)
            have c3 := hcell 3 (by omega)
            have c4 := hcell 4 (by omega)
            have c5 := hcell 5 (by omega)
            have c6 := hcell 6 (by omega)
            have c7 := hcell 7 (by omega)
            have c8 := hcell 8 (by omega)
            have hbl := cell_lt c0
            obtain ⟨b', o', he, hcell'⟩ := elem_at (hR.ext hE) Ha'.out hpl
            simp only [Option.some.injEq, Addr.mk.injEq, and_true] at he
            obtain ⟨rfl, rfl⟩ := he
            have e0 : wr.cell? ⟨b, o + p * 9, none⟩ = some (.int .i64 (a' 0)) := hcell' 0 (by omega)
            have e1 := hcell' 1 (by omega)
            have e2 := hcell' 2 (by omega)
            have e3 := hcell' 3 (by omega)
            have e4 := hcell' 4 (by omega)
            have e5 := hcell' 5 (by omega)
            have e6 := hcell' 6 (by omega)
            have e7 := hcell' 7 (by omega)
            have e8 := hcell' 8 (by omega)
            have d1 : decide (ordK (costK a) (costK a') < 0) = false := ord_nneg (by omega)
            have Hm2 := Lib.hid hm2
            clear hcell hcell' ha hm1 hm2
            by_cases hq : ordK (costK a) (costK a') = 0
            · have d2 : (ordK (costK a) (costK a') == 0) = true := by rw [hq]; rfl
              have hkp : ¬ k < p := fun h => by
                have := Hm2.out h
                unfold ordK at hq
                rw [if_neg (by omega), if_neg (by omega)] at hq
                exact absurd hq (by decide)
              have d3 : decide ((k : Int) < p) = false := by simp; omega
              have d3' : decide (k < p) = false := by simp; omega
              clear hq hkp
              go_upto_region 15 with fail
              refine wp_region_ext [(true, 0), (true, 2), (true, 3), (true, 4), (true, 5), (false, 1), (false, 6), (false, 7), (true, 8)] Try.mixed (by kernel_rfl) (by simp only [pick, List.filterMap_cons, List.filterMap_nil, List.getElem?_toArray, List.getElem?_cons_succ, List.getElem?_cons_zero, Option.map_some]; rfl) ?_
              intro hx
              repeat (first
                | (refine wpL_take hx (v := ?_) (by rfl) (fun _ hc => ?_) ?_
                   rotate_left
                   focus (go_simp; (try go_ints); exact rfl)
                   simp only [Act.put, List.setIfInBounds_toArray, List.set_cons_zero, List.set_cons_succ])
                | (refine wpL_skip (by rfl) ?_; simp only [Act.put, List.setIfInBounds_toArray, List.set_cons_zero, List.set_cons_succ])
                | (refine wpL_call (by rfl) (fun K hK => ?_); go_simp; go_at_call 13; refine (cost_any _ _ (by assumption)).mono ?_; rintro e w1 ⟨r1, rfl, hr1, hE1⟩; refine hK _ _ (hE1) ?_; clear hK; intro hr; replace hx := hx.trans hr; clear hr; simp only [Act.put, List.setIfInBounds_toArray, List.set_cons_zero, List.set_cons_succ])
                | (refine wpL_call (by rfl) (fun K hK => ?_); go_simp; go_at_call 12; refine (rorder_any _ _ _ _ _ (by assumption) (by assumption)).mono ?_; rintro e w1 ⟨rfl, rfl⟩; refine hK _ _ (Ext.refl _) ?_; clear hK; intro hr; replace hx := hx.trans hr; clear hr; simp only [Act.put, List.setIfInBounds_toArray, List.set_cons_zero, List.set_cons_succ])
                | (refine wpL_call (by rfl) (fun K hK => ?_); go_simp; (first | (refine hK _ _ ?_ ?_; (focus ((repeat (first | (with_reducible exact Ext.refl _) | assumption | (with_reducible refine Ext.alloc ?_ _) | (with_reducible refine Ext.drew ?_) | (with_reducible refine Ext.drewL ?_) | refine Ext.trans ?_ (by assumption))); done))) | (refine hK undef _ ?_ ?_; (focus ((repeat (first | (with_reducible exact Ext.refl _) | assumption | (with_reducible refine Ext.alloc ?_ _) | (with_reducible refine Ext.drew ?_) | (with_reducible refine Ext.drewL ?_) | refine Ext.trans ?_ (by assumption))); done)))); clear hK; intro hr; replace hx := hx.trans hr; clear hr; try simp only [Act.put, List.setIfInBounds_toArray, List.set_cons_zero, List.set_cons_succ]))
              refine wpL_end ?_
              go_wp2
              go_roundw
              case rel => exact ⟨k + 1, by omega, by go_num, by (repeat (first | (with_reducible exact Ext.refl _) | assumption | (with_reducible refine Ext.alloc ?_ _) | (with_reducible refine Ext.drew ?_) | (with_reducible refine Ext.drewL ?_) | refine Ext.trans ?_ (by assumption)))⟩
              case measure => simp [intOf]; omega
            · have d2 : (ordK (costK a) (costK a') == 0) = false := by simpa using hq
              clear hq
              go_upto_region 15 with fail
              refine wp_region_ext [(true, 0), (true, 2), (true, 3), (true, 4), (true, 5), (false, 1), (false, 6), (false, 7), (true, 8)] Try.mixed (by kernel_rfl) (by simp only [pick, List.filterMap_cons, List.filterMap_nil, List.getElem?_toArray, List.getElem?_cons_succ, List.getElem?_cons_zero, Option.map_some]; rfl) ?_
              intro hx
              repeat (first
                | (refine wpL_take hx (v := ?_) (by rfl) (fun _ hc => ?_) ?_
                   rotate_left
                   focus (go_simp; (try go_ints); exact rfl)
                   simp only [Act.put, List.setIfInBounds_toArray, List.set_cons_zero, List.set_cons_succ])
                | (refine wpL_skip (by rfl) ?_; simp only [Act.put, List.setIfInBounds_toArray, List.set_cons_zero, List.set_cons_succ])
                | (refine wpL_call (by rfl) (fun K hK => ?_); go_simp; go_at_call 13; refine (cost_any _ _ (by assumption)).mono ?_; rintro e w1 ⟨r1, rfl, hr1, hE1⟩; refine hK _ _ (hE1) ?_; clear hK; intro hr; replace hx := hx.trans hr; clear hr; simp only [Act.put, List.setIfInBounds_toArray, List.set_cons_zero, List.set_cons_succ])
                | (refine wpL_call (by rfl) (fun K hK => ?_); go_simp; go_at_call 12; refine (rorder_any _ _ _ _ _ (by assumption) (by assumption)).mono ?_; rintro e w1 ⟨rfl, rfl⟩; refine hK _ _ (Ext.refl _) ?_; clear hK; intro hr; replace hx := hx.trans hr; clear hr; simp only [Act.put, List.setIfInBounds_toArray, List.set_cons_zero, List.set_cons_succ])
                | (refine wpL_call (by rfl) (fun K hK => ?_); go_simp; (first | (refine hK _ _ ?_ ?_; (focus ((repeat (first | (with_reducible exact Ext.refl _) | assumption | (with_reducible refine Ext.alloc ?_ _) | (with_reducible refine Ext.drew ?_) | (with_reducible refine Ext.drewL ?_) | refine Ext.trans ?_ (by assumption))); done))) | (refine hK undef _ ?_ ?_; (focus ((repeat (first | (with_reducible exact Ext.refl _) | assumption | (with_reducible refine Ext.alloc ?_ _) | (with_reducible refine Ext.drew ?_) | (with_reducible refine Ext.drewL ?_) | refine Ext.trans ?_ (by assumption))); done)))); clear hK; intro hr; replace hx := hx.trans hr; clear hr; try simp only [Act.put, List.setIfInBounds_toArray, List.set_cons_zero, List.set_cons_succ]))
              refine wpL_end ?_
              go_wp2
              go_roundw
              case rel => exact ⟨k + 1, by omega, by go_num, by (repeat (first | (with_reducible exact Ext.refl _) | assumption | (with_reducible refine Ext.alloc ?_ _) | (with_reducible refine Ext.drew ?_) | (with_reducible refine Ext.drewL ?_) | refine Ext.trans ?_ (by assumption)))⟩
              case measure => simp [intOf]; omega
          · have hdec : decide ((k : Int) < l.length) = false := by simp; omega
            have hdec' : decide (k < l.length) = false := by simp; omega
            go_wp2_with (first | (go_at_call 11; refine (awake_any _).mono ?_; rintro e w1 ⟨rfl, hE8⟩))
            go_ret
            exact ⟨rfl, by (repeat (first | (with_reducible exact Ext.refl _) | assumption | (with_reducible refine Ext.alloc ?_ _) | (with_reducible refine Ext.drew ?_) | (with_reducible refine Ext.drewL ?_) | refine Ext.trans ?_ (by assumption)))⟩
end Go.Proofs.Ytdacclclalhbaaa
