/- The walks of Best and its reference. Conditions: the ranges that each theorem states. -/
import Derived.Test.YtdacclclalhbaaaE
namespace Go.Proofs.Ytdacclclalhbaaa
open Go.RowKit Go.Draw

/-- nine cells written -/
def put9 (w : World) (b : Nat) (a : Nat → Int) : World :=
  ((((((((w.setCell ⟨b, 0, none⟩ (.int .i64 (a 0))).setCell ⟨b, 1, none⟩ (.int .i64 (a 1))).setCell ⟨b, 2, none⟩ (.int .i64 (a 2))).setCell ⟨b, 3, none⟩ (.int .i64 (a 3))).setCell ⟨b, 4, none⟩ (.int .i64 (a 4))).setCell ⟨b, 5, none⟩ (.int .i64 (a 5))).setCell ⟨b, 6, none⟩ (.int .i64 (a 6))).setCell ⟨b, 7, none⟩ (.int .i64 (a 7))).setCell ⟨b, 8, none⟩ (.int .i64 (a 8))
theorem put9_def (w : World) (b : Nat) (a : Nat → Int) :
  ((((((((w.setCell ⟨b, 0, none⟩ (.int .i64 (a 0))).setCell ⟨b, 1, none⟩ (.int .i64 (a 1))).setCell ⟨b, 2, none⟩ (.int .i64 (a 2))).setCell ⟨b, 3, none⟩ (.int .i64 (a 3))).setCell ⟨b, 4, none⟩ (.int .i64 (a 4))).setCell ⟨b, 5, none⟩ (.int .i64 (a 5))).setCell ⟨b, 6, none⟩ (.int .i64 (a 6))).setCell ⟨b, 7, none⟩ (.int .i64 (a 7))).setCell ⟨b, 8, none⟩ (.int .i64 (a 8)) = put9 w b a := rfl
theorem ext_put9 {a w : World} {b : Nat} (x : Nat → Int) (h : Ext a w) (hb : a.heap.size ≤ b) : Ext a (put9 w b x) := by
  unfold put9
  repeat (refine Ext.setCell ?_ hb _)
  exact h
theorem blk_put9 {w : World} {b : Nat} {t : TypeId} {u0 u1 u2 u3 u4 u5 u6 u7 u8 : Value} (a : Nat → Int) (h : Blk w b t #[u0, u1, u2, u3, u4, u5, u6, u7, u8]) : Blk (put9 w b a) b t (stV a) := by
  have h9 := ((((((((h.set_ 0 (.int .i64 (a 0))).set_ 1 (.int .i64 (a 1))).set_ 2 (.int .i64 (a 2))).set_ 3 (.int .i64 (a 3))).set_ 4 (.int .i64 (a 4))).set_ 5 (.int .i64 (a 5))).set_ 6 (.int .i64 (a 6))).set_ 7 (.int .i64 (a 7))).set_ 8 (.int .i64 (a 8))
  simp only [List.setIfInBounds_toArray, List.set_cons_zero, List.set_cons_succ] at h9
  exact h9

/-- the cells of a list of counts -/
def flat : List (Nat → Int) → List Value
  | [] => []
  | a :: l => (stV a).toList ++ flat l
theorem flat_len : ∀ l : List (Nat → Int), (flat l).length = l.length * 9
  | [] => rfl
  | a :: l => by rw [flat, List.length_append, flat_len l]; simp [stV]; omega
theorem flat_at : ∀ (l : List (Nat → Int)) (k j : Nat) (a : Nat → Int), l[k]? = some a → j < 9 → (flat l)[k * 9 + j]? = some (.int .i64 (a j))
  | [], k, j, a, h, _ => by simp at h
  | b :: l, 0, j, a, h, hj => by
    simp only [List.getElem?_cons_zero, Option.some.injEq] at h
    subst h
    rw [flat, List.getElem?_append_left (by simp [stV]; omega)]
    match j, hj with
    | 0, _ | 1, _ | 2, _ | 3, _ | 4, _ | 5, _ | 6, _ | 7, _ | 8, _ => rfl
    | j + 9, hj => omega
  | b :: l, k + 1, j, a, h, hj => by
    simp only [List.getElem?_cons_succ] at h
    rw [flat, List.getElem?_append_right (by simp [stV]; omega)]
    rw [show (k + 1) * 9 + j - (stV b).toList.length = k * 9 + j by simp [stV]; omega]
    exact flat_at l k j a h hj
theorem flat_snoc : ∀ (l : List (Nat → Int)) (a : Nat → Int), flat (l ++ [a]) = flat l ++ (stV a).toList
  | [], a => by simp [flat]
  | b :: l, a => by simp [flat, flat_snoc l a]
theorem one_flat : ∀ l : List (Nat → Int), ∀ u ∈ flat l, u.oneCell' = true
  | [], u, h => by simp [flat] at h
  | a :: l, u, h => by
    rw [flat, List.mem_append] at h
    rcases h with h | h
    · simp [stV] at h
      rcases h with rfl | rfl | rfl | rfl | rfl | rfl | rfl | rfl | rfl <;> rfl
    · exact one_flat l u h
/-- the nine cells of an element -/
theorem elem_at {w : World} {A : Option Addr} {n : Nat} {l : List (Nat → Int)} (h : Rd w A n 9 (flat l)) {k : Nat} {a : Nat → Int} (hk : l[k]? = some a) (hn : k < n) :
    ∃ b o, A = some ⟨b, o, none⟩ ∧ ∀ j, j < 9 → w.cell? ⟨b, o + k * 9 + j, none⟩ = some (.int .i64 (a j)) := by
  obtain ⟨b, o, rfl, hc⟩ := h.2 (by omega)
  refine ⟨b, o, rfl, fun j hj => ?_⟩
  have := hc (k * 9 + j) _ (flat_at l k j a hk hj)
  rwa [← Nat.add_assoc] at this

/-- the place of the least -/
def bst (K : Nat → Nat) : Nat → Nat
  | 0 => 0
  | k + 1 => if k = 0 then 0 else if K k < K (bst K k) then k else bst K k
theorem bst_lt (K : Nat → Nat) : ∀ k, 0 < k → bst K k < k
  | 0, h => by omega
  | k + 1, _ => by
    unfold bst
    split
    · omega
    · split
      · omega
      · have := bst_lt K k (by omega); omega
def bestI (K : Nat → Nat) (k : Nat) : Int := if k = 0 then -1 else bst K k
def costAt (l : List (Nat → Int)) (k : Nat) : Nat := match l[k]? with | some a => costK a | none => 0

theorem ord_neg {k l : Nat} (h : k < l) : decide (ordK k l < 0) = true := by unfold ordK; rw [if_pos h]; rfl
theorem ord_nneg {k l : Nat} (h : ¬ k < l) : decide (ordK k l < 0) = false := by
  unfold ordK; rw [if_neg h]; split <;> rfl

set_option maxRecDepth 100000 in
set_option maxHeartbeats 4000000 in
theorem best_any (A : Option Addr) (n c : Nat) (l : List (Nat → Int)) (w : World) (hr : Rd w A n 9 (flat l)) (hl : l.length = n) (hn : n ≤ 100) (hc : ∀ a ∈ l, Cnts a) :
    Calls Try.prog 9 #[.slice A n c] w fun e w' => e = .returned (.int .i64 (bestI (costAt l) n)) ∧ Ext w w' := by
  have Hl := Lib.hid hl
  have Hc := Lib.hid hc
  clear hl hc
  go_enter Try.func9, Try.ntmps9
  go_wp2
  go_loopw [3, 8] (fun bs i wr => ∃ k : Nat, k ≤ n ∧ i = .int .i64 k ∧ bs = .int .i64 (bestI (costAt l) k) ∧ Ext w wr) (fun _ i _ => n - (intOf i).toNat)
  case atStart => exact ⟨0, by omega, rfl, rfl, by (repeat (first | (with_reducible exact Ext.refl _) | assumption | (with_reducible refine Ext.alloc ?_ _) | (with_reducible refine Ext.drew ?_) | (with_reducible refine Ext.drewL ?_) | refine Ext.trans ?_ (by assumption)))⟩
  case round =>
    obtain ⟨k, hk, rfl, rfl, hE⟩ := hrel
    by_cases hlt : k < n
    · have hdec : decide ((k : Int) < n) = true := by simp; omega
      have hdec' : decide (k < n) = true := by simp; omega
      have hkb : (k : Int) < n := by omega
      obtain ⟨a, ha⟩ : ∃ a, l[k]? = some a := ⟨_, List.getElem?_eq_getElem (by rw [Hl.out]; exact hlt)⟩
      have hca : Cnts a := Hc.out a (List.mem_of_getElem? ha)
      obtain ⟨b, o, rfl, hcell⟩ := elem_at (hr.ext hE) ha hlt
      have c0 : wr.cell? ⟨b, o + k * 9, none⟩ = some (.int .i64 (a 0)) := hcell 0 (by omega)
      have c1 := hcell 1 (by omega)
      have c2 := hcell 2 (by omega)
      have c3 := hcell 3 (by omega)
      have c4 := hcell 4 (by omega)
      have c5 := hcell 5 (by omega)
      have c6 := hcell 6 (by omega)
      have c7 := hcell 7 (by omega)
      have c8 := hcell 8 (by omega)
      have hbl := cell_lt c0
      have Hka := Lib.hid (show costAt l k = costK a by unfold costAt; rw [ha])
      clear hcell ha
      by_cases hk0 : k = 0
      · rw [show bestI (costAt l) k = -1 by unfold bestI; rw [if_pos hk0]]
        have hdn : decide ((-1 : Int) < 0) = true := by decide
        have Hb1 := Lib.hid (show bestI (costAt l) (k + 1) = (k : Int) by unfold bestI bst; rw [if_neg (by omega), if_pos hk0, hk0])
        clear hk0
        go_upto_region 5 with fail
        refine wp_region_ext [(true, 0), (true, 1), (true, 2), (true, 3), (true, 5), (true, 6), (true, 7), (true, 8), (false, 4), (false, 9), (false, 10), (true, 11), (true, 12)] Try.mixed (by kernel_rfl) (by simp only [pick, List.filterMap_cons, List.filterMap_nil, List.getElem?_toArray, List.getElem?_cons_succ, List.getElem?_cons_zero, Option.map_some]; rfl) ?_
        intro hx
        repeat (first
          | (refine wpL_take hx (v := ?_) (by rfl) (fun _ hc => ?_) ?_
             rotate_left
             focus (go_simp; (try go_ints); exact rfl)
             simp only [Act.put, List.setIfInBounds_toArray, List.set_cons_zero, List.set_cons_succ])
          | (refine wpL_skip (by rfl) ?_; simp only [Act.put, List.setIfInBounds_toArray, List.set_cons_zero, List.set_cons_succ])
          | (refine wpL_call (by rfl) (fun K hK => ?_); go_simp; go_at_call 13; refine (cost_any _ _ (by assumption)).mono ?_; rintro e w1 ⟨r1, rfl, hr1, hE1⟩; refine hK _ _ (hE1) ?_; clear hK; intro hr; replace hx := hx.trans hr; clear hr; simp only [Act.put, List.setIfInBounds_toArray, List.set_cons_zero, List.set_cons_succ])
          | (refine wpL_call (by rfl) (fun K hK => ?_); go_simp; go_at_call 22; refine (order_any _ _ _ _ _ (by assumption) (by assumption)).mono ?_; rintro e w1 ⟨rfl, rfl⟩; refine hK _ _ (Ext.refl _) ?_; clear hK; intro hr; replace hx := hx.trans hr; clear hr; simp only [Act.put, List.setIfInBounds_toArray, List.set_cons_zero, List.set_cons_succ])
          | (refine wpL_call (by rfl) (fun K hK => ?_); go_simp; (first | (refine hK _ _ ?_ ?_; (focus ((repeat (first | (with_reducible exact Ext.refl _) | assumption | (with_reducible refine Ext.alloc ?_ _) | (with_reducible refine Ext.drew ?_) | (with_reducible refine Ext.drewL ?_) | refine Ext.trans ?_ (by assumption))); done))) | (refine hK undef _ ?_ ?_; (focus ((repeat (first | (with_reducible exact Ext.refl _) | assumption | (with_reducible refine Ext.alloc ?_ _) | (with_reducible refine Ext.drew ?_) | (with_reducible refine Ext.drewL ?_) | refine Ext.trans ?_ (by assumption))); done)))); clear hK; intro hr; replace hx := hx.trans hr; clear hr; try simp only [Act.put, List.setIfInBounds_toArray, List.set_cons_zero, List.set_cons_succ]))
        refine wpL_end ?_
        go_wp2
        go_roundw
        case rel => exact ⟨k + 1, by omega, by go_num, by rw [Hb1.out], by (repeat (first | (with_reducible exact Ext.refl _) | assumption | (with_reducible refine Ext.alloc ?_ _) | (with_reducible refine Ext.drew ?_) | (with_reducible refine Ext.drewL ?_) | refine Ext.trans ?_ (by assumption)))⟩
        case measure => simp [intOf]; omega
      · obtain ⟨p, hp⟩ : ∃ p, bst (costAt l) k = p := ⟨_, rfl⟩
        have hpk : p < k := by have := bst_lt (costAt l) k (by omega); omega
        rw [show bestI (costAt l) k = (p : Int) by unfold bestI; rw [if_neg hk0, hp]]
        obtain ⟨a', ha'⟩ : ∃ a', l[p]? = some a' := ⟨_, List.getElem?_eq_getElem (by rw [Hl.out]; omega)⟩
        have hca' : Cnts a' := Hc.out a' (List.mem_of_getElem? ha')
        obtain ⟨b', o', he, hcell'⟩ := elem_at (hr.ext hE) ha' (by omega)
        simp only [Option.some.injEq, Addr.mk.injEq, and_true] at he
        obtain ⟨rfl, rfl⟩ := he
        have e0 : wr.cell? ⟨b, o + p * 9, none⟩ = some (.int .i64 (a' 0)) := hcell' 0 (by omega)
        have e1 := hcell' 1 (by omega)
        have e2 := hcell' 2 (by omega)
        have e3 := hcell' 3 (by omega)
        have e4 := hcell' 4 (by omega)
        have e5 := hcell' 5 (by omega)
        have e6 := hcell' 6 (by omega)
        have e7 := hcell' 7 (by omega)
        have e8 := hcell' 8 (by omega)
        have hpb : (p : Int) < n := by omega
        have hpn : decide ((p : Int) < 0) = false := by simp
        have Hpa := Lib.hid (show costAt l p = costK a' by unfold costAt; rw [ha'])
        have Hp := Lib.hid hp
        clear hcell' ha' hp
        by_cases hlt2 : costK a < costK a'
        · have hneg := ord_neg hlt2
          have hb1 : bestI (costAt l) (k + 1) = (k : Int) := by
            unfold bestI bst; rw [if_neg (by omega), if_neg hk0, Hp.out, Hka.out, Hpa.out, if_pos hlt2]
          have Hb1 := Lib.hid hb1
          clear hb1 hlt2
          go_upto_region 5 with fail
          refine wp_region_ext [(true, 0), (true, 1), (true, 2), (true, 3), (true, 5), (true, 6), (true, 7), (true, 8), (false, 4), (false, 9), (false, 10), (true, 11), (true, 12)] Try.mixed (by kernel_rfl) (by simp only [pick, List.filterMap_cons, List.filterMap_nil, List.getElem?_toArray, List.getElem?_cons_succ, List.getElem?_cons_zero, Option.map_some]; rfl) ?_
          intro hx
          repeat (first
            | (refine wpL_take hx (v := ?_) (by rfl) (fun _ hc => ?_) ?_
               rotate_left
               focus (go_simp; (try go_ints); exact rfl)
               simp only [Act.put, List.setIfInBounds_toArray, List.set_cons_zero, List.set_cons_succ])
            | (refine wpL_skip (by rfl) ?_; simp only [Act.put, List.setIfInBounds_toArray, List.set_cons_zero, List.set_cons_succ])
            | (refine wpL_call (by rfl) (fun K hK => ?_); go_simp; go_at_call 13; refine (cost_any _ _ (by assumption)).mono ?_; rintro e w1 ⟨r1, rfl, hr1, hE1⟩; refine hK _ _ (hE1) ?_; clear hK; intro hr; replace hx := hx.trans hr; clear hr; simp only [Act.put, List.setIfInBounds_toArray, List.set_cons_zero, List.set_cons_succ])
            | (refine wpL_call (by rfl) (fun K hK => ?_); go_simp; go_at_call 22; refine (order_any _ _ _ _ _ (by assumption) (by assumption)).mono ?_; rintro e w1 ⟨rfl, rfl⟩; refine hK _ _ (Ext.refl _) ?_; clear hK; intro hr; replace hx := hx.trans hr; clear hr; simp only [Act.put, List.setIfInBounds_toArray, List.set_cons_zero, List.set_cons_succ])
            | (refine wpL_call (by rfl) (fun K hK => ?_); go_simp; (first | (refine hK _ _ ?_ ?_; (focus ((repeat (first | (with_reducible exact Ext.refl _) | assumption | (with_reducible refine Ext.alloc ?_ _) | (with_reducible refine Ext.drew ?_) | (with_reducible refine Ext.drewL ?_) | refine Ext.trans ?_ (by assumption))); done))) | (refine hK undef _ ?_ ?_; (focus ((repeat (first | (with_reducible exact Ext.refl _) | assumption | (with_reducible refine Ext.alloc ?_ _) | (with_reducible refine Ext.drew ?_) | (with_reducible refine Ext.drewL ?_) | refine Ext.trans ?_ (by assumption))); done)))); clear hK; intro hr; replace hx := hx.trans hr; clear hr; try simp only [Act.put, List.setIfInBounds_toArray, List.set_cons_zero, List.set_cons_succ]))
          refine wpL_end ?_
          go_wp2
          go_roundw
          case rel => exact ⟨k + 1, by omega, by go_num, by rw [Hb1.out], by (repeat (first | (with_reducible exact Ext.refl _) | assumption | (with_reducible refine Ext.alloc ?_ _) | (with_reducible refine Ext.drew ?_) | (with_reducible refine Ext.drewL ?_) | refine Ext.trans ?_ (by assumption)))⟩
          case measure => simp [intOf]; omega
        · have hneg := ord_nneg hlt2
          have hb1 : bestI (costAt l) (k + 1) = (p : Int) := by
            unfold bestI bst; rw [if_neg (by omega), if_neg hk0, Hp.out, Hka.out, Hpa.out, if_neg hlt2]
          have Hb1 := Lib.hid hb1
          clear hb1 hlt2
          go_upto_region 5 with fail
          refine wp_region_ext [(true, 0), (true, 1), (true, 2), (true, 3), (true, 5), (true, 6), (true, 7), (true, 8), (false, 4), (false, 9), (false, 10), (true, 11), (true, 12)] Try.mixed (by kernel_rfl) (by simp only [pick, List.filterMap_cons, List.filterMap_nil, List.getElem?_toArray, List.getElem?_cons_succ, List.getElem?_cons_zero, Option.map_some]; rfl) ?_
          intro hx
          repeat (first
            | (refine wpL_take hx (v := ?_) (by rfl) (fun _ hc => ?_) ?_
               rotate_left
               focus (go_simp; (try go_ints); exact rfl)
               simp only [Act.put, List.setIfInBounds_toArray, List.set_cons_zero, List.set_cons_succ])
            | (refine wpL_skip (by rfl) ?_; simp only [Act.put, List.setIfInBounds_toArray, List.set_cons_zero, List.set_cons_succ])
            | (refine wpL_call (by rfl) (fun K hK => ?_); go_simp; go_at_call 13; refine (cost_any _ _ (by assumption)).mono ?_; rintro e w1 ⟨r1, rfl, hr1, hE1⟩; refine hK _ _ (hE1) ?_; clear hK; intro hr; replace hx := hx.trans hr; clear hr; simp only [Act.put, List.setIfInBounds_toArray, List.set_cons_zero, List.set_cons_succ])
            | (refine wpL_call (by rfl) (fun K hK => ?_); go_simp; go_at_call 22; refine (order_any _ _ _ _ _ (by assumption) (by assumption)).mono ?_; rintro e w1 ⟨rfl, rfl⟩; refine hK _ _ (Ext.refl _) ?_; clear hK; intro hr; replace hx := hx.trans hr; clear hr; simp only [Act.put, List.setIfInBounds_toArray, List.set_cons_zero, List.set_cons_succ])
            | (refine wpL_call (by rfl) (fun K hK => ?_); go_simp; (first | (refine hK _ _ ?_ ?_; (focus ((repeat (first | (with_reducible exact Ext.refl _) | assumption | (with_reducible refine Ext.alloc ?_ _) | (with_reducible refine Ext.drew ?_) | (with_reducible refine Ext.drewL ?_) | refine Ext.trans ?_ (by assumption))); done))) | (refine hK undef _ ?_ ?_; (focus ((repeat (first | (with_reducible exact Ext.refl _) | assumption | (with_reducible refine Ext.alloc ?_ _) | (with_reducible refine Ext.drew ?_) | (with_reducible refine Ext.drewL ?_) | refine Ext.trans ?_ (by assumption))); done)))); clear hK; intro hr; replace hx := hx.trans hr; clear hr; try simp only [Act.put, List.setIfInBounds_toArray, List.set_cons_zero, List.set_cons_succ]))
          refine wpL_end ?_
          go_wp2
          go_roundw
          case rel => exact ⟨k + 1, by omega, by go_num, by rw [Hb1.out], by (repeat (first | (with_reducible exact Ext.refl _) | assumption | (with_reducible refine Ext.alloc ?_ _) | (with_reducible refine Ext.drew ?_) | (with_reducible refine Ext.drewL ?_) | refine Ext.trans ?_ (by assumption)))⟩
          case measure => simp [intOf]; omega
    · have hdec : decide ((k : Int) < n) = false := by simp; omega
      have hdec' : decide (k < n) = false := by simp; omega
      obtain rfl : k = n := by omega
      go_wp2
      go_ret
      exact ⟨rfl, by (repeat (first | (with_reducible exact Ext.refl _) | assumption | (with_reducible refine Ext.alloc ?_ _) | (with_reducible refine Ext.drew ?_) | (with_reducible refine Ext.drewL ?_) | refine Ext.trans ?_ (by assumption)))⟩
set_option maxRecDepth 100000 in
set_option maxHeartbeats 4000000 in
theorem rbest_any (A : Option Addr) (n c : Nat) (l : List (Nat → Int)) (w : World) (hr : Rd w A n 9 (flat l)) (hl : l.length = n) (hn : n ≤ 100) (hc : ∀ a ∈ l, Cnts a) :
    Calls Try.prog 10 #[.slice A n c] w fun e w' => e = .returned (.int .i64 (bestI (costAt l) n)) ∧ Ext w w' := by
  have Hl := Lib.hid hl
  have Hc := Lib.hid hc
  clear hl hc
  go_enter Try.func10, Try.ntmps10
  go_wp2
  go_loopw [3, 8] (fun bs i wr => ∃ k : Nat, k ≤ n ∧ i = .int .i64 k ∧ bs = .int .i64 (bestI (costAt l) k) ∧ Ext w wr) (fun _ i _ => n - (intOf i).toNat)
  case atStart => exact ⟨0, by omega, rfl, rfl, by (repeat (first | (with_reducible exact Ext.refl _) | assumption | (with_reducible refine Ext.alloc ?_ _) | (with_reducible refine Ext.drew ?_) | (with_reducible refine Ext.drewL ?_) | refine Ext.trans ?_ (by assumption)))⟩
  case round =>
    obtain ⟨k, hk, rfl, rfl, hE⟩ := hrel
    by_cases hlt : k < n
    · have hdec : decide ((k : Int) < n) = true := by simp; omega
      have hdec' : decide (k < n) = true := by simp; omega
      have hkb : (k : Int) < n := by omega
      obtain ⟨a, ha⟩ : ∃ a, l[k]? = some a := ⟨_, List.getElem?_eq_getElem (by rw [Hl.out]; exact hlt)⟩
      have hca : Cnts a := Hc.out a (List.mem_of_getElem? ha)
      obtain ⟨b, o, rfl, hcell⟩ := elem_at (hr.ext hE) ha hlt
      have c0 : wr.cell? ⟨b, o + k * 9, none⟩ = some (.int .i64 (a 0)) := hcell 0 (by omega)
      have c1 := hcell 1 (by omega)
      have c2 := hcell 2 (by omega)
      have c3 := hcell 3 (by omega)
      have c4 := hcell 4 (by omega)
      have c5 := hcell 5 (by omega)
      have c6 := hcell 6 (by omega)
      have c7 := hcell 7 (by omega)
      have c8 := hcell 8 (by omega)
      have hbl := cell_lt c0
      have Hka := Lib.hid (show costAt l k = costK a by unfold costAt; rw [ha])
      clear hcell ha
      by_cases hk0 : k = 0
      · rw [show bestI (costAt l) k = -1 by unfold bestI; rw [if_pos hk0]]
        have hdn : decide ((-1 : Int) < 0) = true := by decide
        have Hb1 := Lib.hid (show bestI (costAt l) (k + 1) = (k : Int) by unfold bestI bst; rw [if_neg (by omega), if_pos hk0, hk0])
        clear hk0
        go_upto_region 5 with fail
        refine wp_region_ext [(true, 0), (true, 1), (true, 2), (true, 3), (true, 5), (true, 6), (true, 7), (true, 8), (false, 4), (false, 9), (false, 10), (true, 11), (true, 12)] Try.mixed (by kernel_rfl) (by simp only [pick, List.filterMap_cons, List.filterMap_nil, List.getElem?_toArray, List.getElem?_cons_succ, List.getElem?_cons_zero, Option.map_some]; rfl) ?_
        intro hx
        repeat (first
          | (refine wpL_take hx (v := ?_) (by rfl) (fun _ hc => ?_) ?_
             rotate_left
             focus (go_simp; (try go_ints); exact rfl)
             simp only [Act.put, List.setIfInBounds_toArray, List.set_cons_zero, List.set_cons_succ])
          | (refine wpL_skip (by rfl) ?_; simp only [Act.put, List.setIfInBounds_toArray, List.set_cons_zero, List.set_cons_succ])
          | (refine wpL_call (by rfl) (fun K hK => ?_); go_simp; go_at_call 19; refine (rcost_any _ _ (by assumption)).mono ?_; rintro e w1 ⟨r1, rfl, hr1, hE1⟩; refine hK _ _ (hE1) ?_; clear hK; intro hr; replace hx := hx.trans hr; clear hr; simp only [Act.put, List.setIfInBounds_toArray, List.set_cons_zero, List.set_cons_succ])
          | (refine wpL_call (by rfl) (fun K hK => ?_); go_simp; go_at_call 12; refine (rorder_any _ _ _ _ _ (by assumption) (by assumption)).mono ?_; rintro e w1 ⟨rfl, rfl⟩; refine hK _ _ (Ext.refl _) ?_; clear hK; intro hr; replace hx := hx.trans hr; clear hr; simp only [Act.put, List.setIfInBounds_toArray, List.set_cons_zero, List.set_cons_succ])
          | (refine wpL_call (by rfl) (fun K hK => ?_); go_simp; (first | (refine hK _ _ ?_ ?_; (focus ((repeat (first | (with_reducible exact Ext.refl _) | assumption | (with_reducible refine Ext.alloc ?_ _) | (with_reducible refine Ext.drew ?_) | (with_reducible refine Ext.drewL ?_) | refine Ext.trans ?_ (by assumption))); done))) | (refine hK undef _ ?_ ?_; (focus ((repeat (first | (with_reducible exact Ext.refl _) | assumption | (with_reducible refine Ext.alloc ?_ _) | (with_reducible refine Ext.drew ?_) | (with_reducible refine Ext.drewL ?_) | refine Ext.trans ?_ (by assumption))); done)))); clear hK; intro hr; replace hx := hx.trans hr; clear hr; try simp only [Act.put, List.setIfInBounds_toArray, List.set_cons_zero, List.set_cons_succ]))
        refine wpL_end ?_
        go_wp2
        go_roundw
        case rel => exact ⟨k + 1, by omega, by go_num, by rw [Hb1.out], by (repeat (first | (with_reducible exact Ext.refl _) | assumption | (with_reducible refine Ext.alloc ?_ _) | (with_reducible refine Ext.drew ?_) | (with_reducible refine Ext.drewL ?_) | refine Ext.trans ?_ (by assumption)))⟩
        case measure => simp [intOf]; omega
      · obtain ⟨p, hp⟩ : ∃ p, bst (costAt l) k = p := ⟨_, rfl⟩
        have hpk : p < k := by have := bst_lt (costAt l) k (by omega); omega
        rw [show bestI (costAt l) k = (p : Int) by unfold bestI; rw [if_neg hk0, hp]]
        obtain ⟨a', ha'⟩ : ∃ a', l[p]? = some a' := ⟨_, List.getElem?_eq_getElem (by rw [Hl.out]; omega)⟩
        have hca' : Cnts a' := Hc.out a' (List.mem_of_getElem? ha')
        obtain ⟨b', o', he, hcell'⟩ := elem_at (hr.ext hE) ha' (by omega)
        simp only [Option.some.injEq, Addr.mk.injEq, and_true] at he
        obtain ⟨rfl, rfl⟩ := he
        have e0 : wr.cell? ⟨b, o + p * 9, none⟩ = some (.int .i64 (a' 0)) := hcell' 0 (by omega)
        have e1 := hcell' 1 (by omega)
        have e2 := hcell' 2 (by omega)
        have e3 := hcell' 3 (by omega)
        have e4 := hcell' 4 (by omega)
        have e5 := hcell' 5 (by omega)
        have e6 := hcell' 6 (by omega)
        have e7 := hcell' 7 (by omega)
        have e8 := hcell' 8 (by omega)
        have hpb : (p : Int) < n := by omega
        have hpn : decide ((p : Int) < 0) = false := by simp
        have Hpa := Lib.hid (show costAt l p = costK a' by unfold costAt; rw [ha'])
        have Hp := Lib.hid hp
        clear hcell' ha' hp
        by_cases hlt2 : costK a < costK a'
        · have hneg := ord_neg hlt2
          have hb1 : bestI (costAt l) (k + 1) = (k : Int) := by
            unfold bestI bst; rw [if_neg (by omega), if_neg hk0, Hp.out, Hka.out, Hpa.out, if_pos hlt2]
          have Hb1 := Lib.hid hb1
          clear hb1 hlt2
          go_upto_region 5 with fail
          refine wp_region_ext [(true, 0), (true, 1), (true, 2), (true, 3), (true, 5), (true, 6), (true, 7), (true, 8), (false, 4), (false, 9), (false, 10), (true, 11), (true, 12)] Try.mixed (by kernel_rfl) (by simp only [pick, List.filterMap_cons, List.filterMap_nil, List.getElem?_toArray, List.getElem?_cons_succ, List.getElem?_cons_zero, Option.map_some]; rfl) ?_
          intro hx
          repeat (first
            | (refine wpL_take hx (v := ?_) (by rfl) (fun _ hc => ?_) ?_
               rotate_left
               focus (go_simp; (try go_ints); exact rfl)
               simp only [Act.put, List.setIfInBounds_toArray, List.set_cons_zero, List.set_cons_succ])
            | (refine wpL_skip (by rfl) ?_; simp only [Act.put, List.setIfInBounds_toArray, List.set_cons_zero, List.set_cons_succ])
            | (refine wpL_call (by rfl) (fun K hK => ?_); go_simp; go_at_call 19; refine (rcost_any _ _ (by assumption)).mono ?_; rintro e w1 ⟨r1, rfl, hr1, hE1⟩; refine hK _ _ (hE1) ?_; clear hK; intro hr; replace hx := hx.trans hr; clear hr; simp only [Act.put, List.setIfInBounds_toArray, List.set_cons_zero, List.set_cons_succ])
            | (refine wpL_call (by rfl) (fun K hK => ?_); go_simp; go_at_call 12; refine (rorder_any _ _ _ _ _ (by assumption) (by assumption)).mono ?_; rintro e w1 ⟨rfl, rfl⟩; refine hK _ _ (Ext.refl _) ?_; clear hK; intro hr; replace hx := hx.trans hr; clear hr; simp only [Act.put, List.setIfInBounds_toArray, List.set_cons_zero, List.set_cons_succ])
            | (refine wpL_call (by rfl) (fun K hK => ?_); go_simp; (first | (refine hK _ _ ?_ ?_; (focus ((repeat (first | (with_reducible exact Ext.refl _) | assumption | (with_reducible refine Ext.alloc ?_ _) | (with_reducible refine Ext.drew ?_) | (with_reducible refine Ext.drewL ?_) | refine Ext.trans ?_ (by assumption))); done))) | (refine hK undef _ ?_ ?_; (focus ((repeat (first | (with_reducible exact Ext.refl _) | assumption | (with_reducible refine Ext.alloc ?_ _) | (with_reducible refine Ext.drew ?_) | (with_reducible refine Ext.drewL ?_) | refine Ext.trans ?_ (by assumption))); done)))); clear hK; intro hr; replace hx := hx.trans hr; clear hr; try simp only [Act.put, List.setIfInBounds_toArray, List.set_cons_zero, List.set_cons_succ]))
          refine wpL_end ?_
          go_wp2
          go_roundw
          case rel => exact ⟨k + 1, by omega, by go_num, by rw [Hb1.out], by (repeat (first | (with_reducible exact Ext.refl _) | assumption | (with_reducible refine Ext.alloc ?_ _) | (with_reducible refine Ext.drew ?_) | (with_reducible refine Ext.drewL ?_) | refine Ext.trans ?_ (by assumption)))⟩
          case measure => simp [intOf]; omega
        · have hneg := ord_nneg hlt2
          have hb1 : bestI (costAt l) (k + 1) = (p : Int) := by
            unfold bestI bst; rw [if_neg (by omega), if_neg hk0, Hp.out, Hka.out, Hpa.out, if_neg hlt2]
          have Hb1 := Lib.hid hb1
          clear hb1 hlt2
          go_upto_region 5 with fail
          refine wp_region_ext [(true, 0), (true, 1), (true, 2), (true, 3), (true, 5), (true, 6), (true, 7), (true, 8), (false, 4), (false, 9), (false, 10), (true, 11), (true, 12)] Try.mixed (by kernel_rfl) (by simp only [pick, List.filterMap_cons, List.filterMap_nil, List.getElem?_toArray, List.getElem?_cons_succ, List.getElem?_cons_zero, Option.map_some]; rfl) ?_
          intro hx
          repeat (first
            | (refine wpL_take hx (v := ?_) (by rfl) (fun _ hc => ?_) ?_
               rotate_left
               focus (go_simp; (try go_ints); exact rfl)
               simp only [Act.put, List.setIfInBounds_toArray, List.set_cons_zero, List.set_cons_succ])
            | (refine wpL_skip (by rfl) ?_; simp only [Act.put, List.setIfInBounds_toArray, List.set_cons_zero, List.set_cons_succ])
            | (refine wpL_call (by rfl) (fun K hK => ?_); go_simp; go_at_call 19; refine (rcost_any _ _ (by assumption)).mono ?_; rintro e w1 ⟨r1, rfl, hr1, hE1⟩; refine hK _ _ (hE1) ?_; clear hK; intro hr; replace hx := hx.trans hr; clear hr; simp only [Act.put, List.setIfInBounds_toArray, List.set_cons_zero, List.set_cons_succ])
            | (refine wpL_call (by rfl) (fun K hK => ?_); go_simp; go_at_call 12; refine (rorder_any _ _ _ _ _ (by assumption) (by assumption)).mono ?_; rintro e w1 ⟨rfl, rfl⟩; refine hK _ _ (Ext.refl _) ?_; clear hK; intro hr; replace hx := hx.trans hr; clear hr; simp only [Act.put, List.setIfInBounds_toArray, List.set_cons_zero, List.set_cons_succ])
            | (refine wpL_call (by rfl) (fun K hK => ?_); go_simp; (first | (refine hK _ _ ?_ ?_; (focus ((repeat (first | (with_reducible exact Ext.refl _) | assumption | (with_reducible refine Ext.alloc ?_ _) | (with_reducible refine Ext.drew ?_) | (with_reducible refine Ext.drewL ?_) | refine Ext.trans ?_ (by assumption))); done))) | (refine hK undef _ ?_ ?_; (focus ((repeat (first | (with_reducible exact Ext.refl _) | assumption | (with_reducible refine Ext.alloc ?_ _) | (with_reducible refine Ext.drew ?_) | (with_reducible refine Ext.drewL ?_) | refine Ext.trans ?_ (by assumption))); done)))); clear hK; intro hr; replace hx := hx.trans hr; clear hr; try simp only [Act.put, List.setIfInBounds_toArray, List.set_cons_zero, List.set_cons_succ]))
          refine wpL_end ?_
          go_wp2
          go_roundw
          case rel => exact ⟨k + 1, by omega, by go_num, by rw [Hb1.out], by (repeat (first | (with_reducible exact Ext.refl _) | assumption | (with_reducible refine Ext.alloc ?_ _) | (with_reducible refine Ext.drew ?_) | (with_reducible refine Ext.drewL ?_) | refine Ext.trans ?_ (by assumption)))⟩
          case measure => simp [intOf]; omega
    · have hdec : decide ((k : Int) < n) = false := by simp; omega
      have hdec' : decide (k < n) = false := by simp; omega
      obtain rfl : k = n := by omega
      go_wp2
      go_ret
      exact ⟨rfl, by (repeat (first | (with_reducible exact Ext.refl _) | assumption | (with_reducible refine Ext.alloc ?_ _) | (with_reducible refine Ext.drew ?_) | (with_reducible refine Ext.drewL ?_) | refine Ext.trans ?_ (by assumption)))⟩
end Go.Proofs.Ytdacclclalhbaaa
