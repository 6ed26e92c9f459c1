/- The walks of root.New and of the decks of numbers. Conditions: the ranges that each theorem states. -/
import Derived.Test.YtgjgnokfmjeekaaG
import Derived.RegionTactic
namespace Go.Proofs.Ytgjgnokfmjeekaa
open Go.RowKit Go.Draw

set_option maxRecDepth 100000 in
set_option maxHeartbeats 1000000 in
theorem new_any (w : World) : Calls Try.prog 9 #[] w fun r w' => RetTab w (List.replicate 32 false) (List.replicate 32 0) 32 32 r w' := by
  have hm1 := fun W => run_mk (P := Try.prog) Try.el27 rfl 32 (by omega) (by omega) W
  have hm2 := fun W => run_mk (P := Try.prog) Try.el28 rfl 32 (by omega) (by omega) W
  have hz1 : List.replicate 32 (Value.bool false) = bools (List.replicate 32 false) := by simp [bools]
  have hz2 : List.replicate 32 (Value.int .u64 0) = words (List.replicate 32 0) := by simp [words]
  rw [hz1] at hm1
  rw [hz2] at hm2
  have l1 : (bools (List.replicate 32 false)).length = 32 * 1 := by simp [bools]
  have l2 : (words (List.replicate 32 0)).length = 32 * 1 := by simp [words]
  have L1 := Lib.hid l1
  have L2 := Lib.hid l2
  clear hz1 hz2 l1 l2
  generalize hzs : bools (List.replicate 32 false) = zs at *
  generalize hzt : words (List.replicate 32 0) = zt at *
  have Hzs := Lib.hid hzs
  have Hzt := Lib.hid hzt
  clear hzs hzt
  simp only [Int.cast_ofNat_Int] at hm1 hm2
  go_enter Try.func9, Try.ntmps9
  go_wp2
  go_region
  · go_wp2
    refine bodyPost_ret (v := .agg #[.slice (some ⟨w.heap.size + 1, 0, none⟩) 32 32, .slice (some ⟨w.heap.size + 1 + 1, 0, none⟩) 32 32]) (by simp [results, Try.results9, go_sem]) rfl ⟨_, _, _, _, rfl, ?_, ?_, by (repeat (first | (with_reducible exact Ext.refl _) | assumption | (with_reducible refine Ext.alloc ?_ _) | (with_reducible refine Ext.drew ?_) | (with_reducible refine Ext.drewL ?_) | refine Ext.trans ?_ (by assumption)))⟩
    · rw [Hzs.out]; exact own_drew (own_alloc (own_new (by simp) (by simp) (by omega) L1.out) _)
    · rw [Hzt.out]; exact own_drew (own_new (by simp) (by simp; omega) (by omega) L2.out)
  · go_wp2
    refine bodyPost_ret (v := .agg #[.slice (some ⟨w.heap.size + 1 + 1, 0, none⟩) 32 32, .slice (some ⟨w.heap.size + 1, 0, none⟩) 32 32]) (by simp [results, Try.results9, go_sem]) rfl ⟨_, _, _, _, rfl, ?_, ?_, by (repeat (first | (with_reducible exact Ext.refl _) | assumption | (with_reducible refine Ext.alloc ?_ _) | (with_reducible refine Ext.drew ?_) | (with_reducible refine Ext.drewL ?_) | refine Ext.trans ?_ (by assumption)))⟩
    · rw [Hzs.out]; exact own_drew (own_new (by simp) (by simp; omega) (by omega) L1.out)
    · rw [Hzt.out]; exact own_drew (own_alloc (own_new (by simp) (by simp) (by omega) L2.out) _)

set_option maxRecDepth 100000 in
set_option maxHeartbeats 1000000 in
theorem rnew_any (w : World) : Calls Try.prog 29 #[] w fun r w' => RetTab w (List.replicate 32 false) (List.replicate 32 0) 32 32 r w' := by
  have hm1 := fun W => run_mk (P := Try.prog) Try.el27 rfl 32 (by omega) (by omega) W
  have hm2 := fun W => run_mk (P := Try.prog) Try.el28 rfl 32 (by omega) (by omega) W
  have hz1 : List.replicate 32 (Value.bool false) = bools (List.replicate 32 false) := by simp [bools]
  have hz2 : List.replicate 32 (Value.int .u64 0) = words (List.replicate 32 0) := by simp [words]
  rw [hz1] at hm1
  rw [hz2] at hm2
  have l1 : (bools (List.replicate 32 false)).length = 32 * 1 := by simp [bools]
  have l2 : (words (List.replicate 32 0)).length = 32 * 1 := by simp [words]
  have L1 := Lib.hid l1
  have L2 := Lib.hid l2
  clear hz1 hz2 l1 l2
  generalize hzs : bools (List.replicate 32 false) = zs at *
  generalize hzt : words (List.replicate 32 0) = zt at *
  have Hzs := Lib.hid hzs
  have Hzt := Lib.hid hzt
  clear hzs hzt
  simp only [Int.cast_ofNat_Int] at hm1 hm2
  go_enter Try.func29, Try.ntmps29
  go_wp2
  go_region
  · go_wp2
    refine bodyPost_ret (v := .agg #[.slice (some ⟨w.heap.size + 1, 0, none⟩) 32 32, .slice (some ⟨w.heap.size + 1 + 1, 0, none⟩) 32 32]) (by simp [results, Try.results29, go_sem]) rfl ⟨_, _, _, _, rfl, ?_, ?_, by (repeat (first | (with_reducible exact Ext.refl _) | assumption | (with_reducible refine Ext.alloc ?_ _) | (with_reducible refine Ext.drew ?_) | (with_reducible refine Ext.drewL ?_) | refine Ext.trans ?_ (by assumption)))⟩
    · rw [Hzs.out]; exact own_drew (own_alloc (own_new (by simp) (by simp) (by omega) L1.out) _)
    · rw [Hzt.out]; exact own_drew (own_new (by simp) (by simp; omega) (by omega) L2.out)
  · go_wp2
    refine bodyPost_ret (v := .agg #[.slice (some ⟨w.heap.size + 1 + 1, 0, none⟩) 32 32, .slice (some ⟨w.heap.size + 1, 0, none⟩) 32 32]) (by simp [results, Try.results29, go_sem]) rfl ⟨_, _, _, _, rfl, ?_, ?_, by (repeat (first | (with_reducible exact Ext.refl _) | assumption | (with_reducible refine Ext.alloc ?_ _) | (with_reducible refine Ext.drew ?_) | (with_reducible refine Ext.drewL ?_) | refine Ext.trans ?_ (by assumption)))⟩
    · rw [Hzs.out]; exact own_drew (own_new (by simp) (by simp; omega) (by omega) L1.out)
    · rw [Hzt.out]; exact own_drew (own_alloc (own_new (by simp) (by simp) (by omega) L2.out) _)


def ints (zs : List Int) : List Value := zs.map (.int .i64)
/-- block d is a deck -/
def Dk (w : World) (d : Nat) : Prop := ∃ (A : Option Addr) (n c k : Nat) (zs : List Int), Blk w d 54 #[.slice A n c, .int .i64 k] ∧ Rd w A n 1 (ints zs) ∧ k ≤ n ∧ n ≤ 9223372036854775807 ∧ (0 < n → ∀ ad, A = some ad → ad.block < d)
theorem Dk.ext {w w' : World} {d : Nat} (h : Dk w d) (he : Ext w w') : Dk w' d := by
  obtain ⟨A, n, c, k, zs, h1, h2, h3⟩ := h
  exact ⟨A, n, c, k, zs, h1.ext he, h2.ext he, h3⟩
theorem rd_but {w w' : World} {A : Option Addr} {n size : Nat} {xs : List Value} {S : List Nat} (h : Rd w A n size xs) (he : But S w w') (hS : 0 < n → ∀ ad, A = some ad → ad.block ∉ S) : Rd w' A n size xs :=
  ⟨h.1, fun hn => by
    obtain ⟨b, o, hA, hc⟩ := h.2 hn
    exact ⟨b, o, hA, fun j u hu => cell_but he (hS hn _ hA) (hc j u hu)⟩⟩
theorem Dk.but {w w' : World} {d : Nat} {S : List Nat} (h : Dk w d) (he : But S w w') (hS : ∀ x ∈ S, d < x) : Dk w' d := by
  obtain ⟨A, n, c, k, zs, h1, h2, h3, h4, h5⟩ := h
  exact ⟨A, n, c, k, zs, h1.but he (fun hm => by have := hS _ hm; omega), rd_but h2 he (fun hn ad hA hm => by have := hS _ hm; have := h5 hn ad hA; omega), h3, h4, h5⟩
theorem Dk.lt {w : World} {d : Nat} (h : Dk w d) : d < w.heap.size := by
  obtain ⟨A, n, c, k, zs, h1, _⟩ := h
  exact h1.lt

set_option maxHeartbeats 400000 in
theorem deck_any (A : Option Addr) (n c : Nat) (zs : List Int) (w : World) (hz : Rd w A n 1 (ints zs)) (hn : n ≤ 9223372036854775807) :
    Calls Try.prog 8 #[.slice A n c] w fun r w' => r = .returned (.pointer (some ⟨w.heap.size, 0, none⟩)) ∧ Dk w' w.heap.size ∧ Ext w w' := by
  go_enter Try.func8, Try.ntmps8
  go_wp2
  go_ret
  have hE : Ext w (w.alloc (.cells #[.slice A n c, .int .i64 0] 54)) := by (repeat (first | (with_reducible exact Ext.refl _) | assumption | (with_reducible refine Ext.alloc ?_ _) | (with_reducible refine Ext.drew ?_) | (with_reducible refine Ext.drewL ?_) | refine Ext.trans ?_ (by assumption)))
  exact ⟨rfl, ⟨A, n, c, 0, zs, Blk.new rfl, hz.ext hE, by omega, hn, fun h0 ad h => by obtain ⟨b, o, hA, hb⟩ := hz.lt (by omega) h0; rw [hA] at h; injection h with h; subst h; exact hb⟩, hE⟩

set_option maxHeartbeats 400000 in
theorem mod_any (v n : Int) (w : World) (h1 : 1 ≤ n) (h2 : n ≤ 9223372036854775807) :
    Calls Try.prog 17 #[.int .i64 v, .int .i64 n] w fun e w' => e = .returned (.int .i64 (v % n)) ∧ w = w' := by
  go_enter Try.func17, Try.ntmps17
  go_wp2
  · go_ret
    exact ⟨ret_int (tmod_lt h1 h2 (by assumption)), rfl⟩
  · go_ret
    exact ⟨ret_int (tmod_ge h1 (by assumption)), rfl⟩


set_option maxHeartbeats 400000 in
theorem left_any (d : Nat) (w : World) (hd : Dk w d) :
    Calls Try.prog 10 #[.pointer (some ⟨d, 0, none⟩)] w fun r w' => ∃ b, r = .returned (.bool b) ∧ Ext w w' := by
  obtain ⟨A, n, c, k, zs, h1, h2, h3, h4, _⟩ := hd
  have hc := h1.cell
  go_enter Try.func10, Try.ntmps10
  go_wp2
  refine wp_region_ext [(true, 0), (true, 1), (true, 2), (true, 3), (true, 4), (true, 5), (true, 6), (true, 7), (true, 8), (true, 9), (true, 10)] Try.mixed (by kernel_rfl) (by simp only [pick, List.filterMap_cons, List.filterMap_nil, List.getElem?_toArray, List.getElem?_cons_succ, List.getElem?_cons_zero, Option.map_some]; rfl) ?_
  intro hx
  repeat (first
    | (refine wpL_take hx (v := ?_) (by rfl) (fun _ hc => ?_) ?_
       rotate_left
       focus (go_simp; (try go_ints); exact rfl)
       simp only [Act.put, List.setIfInBounds_toArray, List.set_cons_zero, List.set_cons_succ])
    | (refine wpL_skip (by rfl) ?_; simp only [Act.put, List.setIfInBounds_toArray, List.set_cons_zero, List.set_cons_succ])
    | (refine wpL_call (by rfl) (fun K hK => ?_); go_simp; (first | (refine hK _ _ ?_ ?_; (focus ((repeat (first | (with_reducible exact Ext.refl _) | assumption | (with_reducible refine Ext.alloc ?_ _) | (with_reducible refine Ext.drew ?_) | (with_reducible refine Ext.drewL ?_) | refine Ext.trans ?_ (by assumption))); done))) | (refine hK undef _ ?_ ?_; (focus ((repeat (first | (with_reducible exact Ext.refl _) | assumption | (with_reducible refine Ext.alloc ?_ _) | (with_reducible refine Ext.drew ?_) | (with_reducible refine Ext.drewL ?_) | refine Ext.trans ?_ (by assumption))); done)))); clear hK; intro hr; replace hx := hx.trans hr; clear hr; try simp only [Act.put, List.setIfInBounds_toArray, List.set_cons_zero, List.set_cons_succ]))
  refine wpL_end ?_
  go_wp2
  go_ret
  exact ⟨_, rfl, by (repeat (first | (with_reducible exact Ext.refl _) | assumption | (with_reducible refine Ext.alloc ?_ _) | (with_reducible refine Ext.drew ?_) | (with_reducible refine Ext.drewL ?_) | refine Ext.trans ?_ (by assumption)))⟩

set_option maxHeartbeats 400000 in
theorem next_any (d : Nat) (m : Int) (w : World) (hd : Dk w d) (hm : 1 ≤ m) (hm2 : m ≤ 9223372036854775807) :
    Calls Try.prog 11 #[.pointer (some ⟨d, 0, none⟩), .int .i64 m] w fun r w' => ∃ x, r = .returned (.int .i64 x) ∧ 0 ≤ x ∧ x < m ∧ Dk w' d ∧ But [d] w w' := by
  obtain ⟨A, n, c, k, zs, h1, h2, h3, h4, hAd⟩ := hd
  have hc := h1.cell
  have hf := h1.froz
  have hkb : (k : Int) ≤ 9223372036854775807 := by omega
  by_cases hlt : k < n
  · obtain ⟨b, o, u, rfl, hku, hcell⟩ := h2.at_ hlt
    obtain ⟨z, rfl⟩ : ∃ z, u = .int .i64 z := by
      simp only [ints, List.getElem?_map, Option.map_eq_some_iff] at hku
      obtain ⟨z, _, h⟩ := hku
      exact ⟨z, h.symm⟩
    have hbl : b < d := hAd (by omega) _ rfl
    have hbd : b ≠ d := by omega
    have hdb : d ≠ b := fun e => hbd e.symm
    have hdec : decide ((n : Int) ≤ k) = false := by simp; omega
    have hdec' : decide (n ≤ k) = false := by simp; omega
    have b1 : (k : Int) + 1 - 1 = k := by omega
    have b2 : (k : Int) < n := by omega
    have hr0 := Int.emod_nonneg z (b := m) (by omega)
    have hr1 := Int.emod_lt_of_pos z (b := m) (by omega)
    have Hku := Lib.hid hku
    clear hku
    go_enter Try.func11, Try.ntmps11
    go_wp2
    refine wp_region_ext [(true, 0), (true, 1), (true, 2), (true, 3), (true, 4), (true, 5), (true, 6), (true, 7), (true, 8), (true, 9)] Try.mixed (by kernel_rfl) (by simp only [pick, List.filterMap_cons, List.filterMap_nil, List.getElem?_toArray, List.getElem?_cons_succ, List.getElem?_cons_zero, Option.map_some]; rfl) ?_
    intro hx
    repeat (first
      | (refine wpL_take hx (v := ?_) (by rfl) (fun _ hc => ?_) ?_
         rotate_left
         focus (go_simp; (try go_ints); exact rfl)
         simp only [Act.put, List.setIfInBounds_toArray, List.set_cons_zero, List.set_cons_succ])
      | (refine wpL_skip (by rfl) ?_; simp only [Act.put, List.setIfInBounds_toArray, List.set_cons_zero, List.set_cons_succ])
      | (refine wpL_call (by rfl) (fun K hK => ?_); go_simp; (first | (refine hK _ _ ?_ ?_; (focus ((repeat (first | (with_reducible exact Ext.refl _) | assumption | (with_reducible refine Ext.alloc ?_ _) | (with_reducible refine Ext.drew ?_) | (with_reducible refine Ext.drewL ?_) | refine Ext.trans ?_ (by assumption))); done))) | (refine hK undef _ ?_ ?_; (focus ((repeat (first | (with_reducible exact Ext.refl _) | assumption | (with_reducible refine Ext.alloc ?_ _) | (with_reducible refine Ext.drew ?_) | (with_reducible refine Ext.drewL ?_) | refine Ext.trans ?_ (by assumption))); done)))); clear hK; intro hr; replace hx := hx.trans hr; clear hr; try simp only [Act.put, List.setIfInBounds_toArray, List.set_cons_zero, List.set_cons_succ]))
    refine wpL_end ?_
    go_wp2
    refine wp_region_ext [(true, 0), (true, 1), (true, 2), (true, 3), (true, 4), (true, 5), (true, 6), (true, 7), (true, 8), (true, 9), (true, 10), (true, 11), (false, 12), (true, 13)] Try.mixed (by kernel_rfl) (by simp only [pick, List.filterMap_cons, List.filterMap_nil, List.getElem?_toArray, List.getElem?_cons_succ, List.getElem?_cons_zero, Option.map_some]; rfl) ?_
    intro hx
    repeat (first
      | (refine wpL_take hx (v := ?_) (by rfl) (fun _ hc => ?_) ?_
         rotate_left
         focus (go_simp; (try go_ints); exact rfl)
         simp only [Act.put, List.setIfInBounds_toArray, List.set_cons_zero, List.set_cons_succ])
      | (refine wpL_skip (by rfl) ?_; simp only [Act.put, List.setIfInBounds_toArray, List.set_cons_zero, List.set_cons_succ])
      | (refine wpL_call (by rfl) (fun K hK => ?_); go_simp; go_at_call 17; refine (mod_any _ _ _ (by omega) (by omega)).mono ?_; rintro e w1 ⟨rfl, rfl⟩; refine hK _ _ (Ext.refl _) ?_; clear hK; intro hr; replace hx := hx.trans hr; clear hr; simp only [Act.put, List.setIfInBounds_toArray, List.set_cons_zero, List.set_cons_succ])
      | (refine wpL_call (by rfl) (fun K hK => ?_); go_simp; (first | (refine hK _ _ ?_ ?_; (focus ((repeat (first | (with_reducible exact Ext.refl _) | assumption | (with_reducible refine Ext.alloc ?_ _) | (with_reducible refine Ext.drew ?_) | (with_reducible refine Ext.drewL ?_) | refine Ext.trans ?_ (by assumption))); done))) | (refine hK undef _ ?_ ?_; (focus ((repeat (first | (with_reducible exact Ext.refl _) | assumption | (with_reducible refine Ext.alloc ?_ _) | (with_reducible refine Ext.drew ?_) | (with_reducible refine Ext.drewL ?_) | refine Ext.trans ?_ (by assumption))); done)))); clear hK; intro hr; replace hx := hx.trans hr; clear hr; try simp only [Act.put, List.setIfInBounds_toArray, List.set_cons_zero, List.set_cons_succ]))
    refine wpL_end ?_
    go_wp2
    go_ret
    have hB : But [d] w (w.setCell ⟨d, 1, none⟩ (.int .i64 ((k : Int) + 1))).drew.drew := But.drew (But.drew (But.setCell (But.refl _ _) (by simp) _))
    refine ⟨_, rfl, hr0, hr1, ⟨some ⟨b, o, none⟩, n, c, k + 1, zs, ?_, rd_but h2 hB (fun h0 ad h => by simp only [List.mem_singleton]; have := hAd h0 ad h; omega), by omega, h4, hAd⟩, hB⟩
    have := (h1.set_ 1 (.int .i64 ((k : Int) + 1))).drew.drew
    exact this
  · have hdec : decide ((n : Int) ≤ k) = true := by simp; omega
    go_enter Try.func11, Try.ntmps11
    go_wp2
    refine wp_region_ext [(true, 0), (true, 1), (true, 2), (true, 3), (true, 4), (true, 5), (true, 6), (true, 7), (true, 8), (true, 9)] Try.mixed (by kernel_rfl) (by simp only [pick, List.filterMap_cons, List.filterMap_nil, List.getElem?_toArray, List.getElem?_cons_succ, List.getElem?_cons_zero, Option.map_some]; rfl) ?_
    intro hx
    repeat (first
      | (refine wpL_take hx (v := ?_) (by rfl) (fun _ hc => ?_) ?_
         rotate_left
         focus (go_simp; (try go_ints); exact rfl)
         simp only [Act.put, List.setIfInBounds_toArray, List.set_cons_zero, List.set_cons_succ])
      | (refine wpL_skip (by rfl) ?_; simp only [Act.put, List.setIfInBounds_toArray, List.set_cons_zero, List.set_cons_succ])
      | (refine wpL_call (by rfl) (fun K hK => ?_); go_simp; (first | (refine hK _ _ ?_ ?_; (focus ((repeat (first | (with_reducible exact Ext.refl _) | assumption | (with_reducible refine Ext.alloc ?_ _) | (with_reducible refine Ext.drew ?_) | (with_reducible refine Ext.drewL ?_) | refine Ext.trans ?_ (by assumption))); done))) | (refine hK undef _ ?_ ?_; (focus ((repeat (first | (with_reducible exact Ext.refl _) | assumption | (with_reducible refine Ext.alloc ?_ _) | (with_reducible refine Ext.drew ?_) | (with_reducible refine Ext.drewL ?_) | refine Ext.trans ?_ (by assumption))); done)))); clear hK; intro hr; replace hx := hx.trans hr; clear hr; try simp only [Act.put, List.setIfInBounds_toArray, List.set_cons_zero, List.set_cons_succ]))
    refine wpL_end ?_
    go_wp2
    go_ret
    have hE : Ext w w.drew := by (repeat (first | (with_reducible exact Ext.refl _) | assumption | (with_reducible refine Ext.alloc ?_ _) | (with_reducible refine Ext.drew ?_) | (with_reducible refine Ext.drewL ?_) | refine Ext.trans ?_ (by assumption)))
    exact ⟨0, rfl, by omega, by omega, Dk.ext ⟨A, n, c, k, zs, h1, h2, h3, h4, hAd⟩ hE, hE.but _⟩
end Go.Proofs.Ytgjgnokfmjeekaa
