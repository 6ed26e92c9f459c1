/- The walks of the decks of numbers and of make's grown. Conditions: the ranges that each theorem states. -/
import Derived.Test.YtljkadpconghnaaSpcM
namespace Go.Proofs.Ytljkadpconghnaa
open Go.RowKit Go.Draw

theorem rd_but {w w' : World} {A : Option Addr} {n size : Nat} {xs : List Value} {S : List Nat} (h : Rd w A n size xs) (he : But S w w') (hS : 0 < n → ∀ ad, A = some ad → ad.block ∉ S) : Rd w' A n size xs :=
  ⟨h.1, fun hn => by
    obtain ⟨b, o, hA, hc⟩ := h.2 hn
    exact ⟨b, o, hA, fun j u hu => cell_but he (hS hn _ hA) (hc j u hu)⟩⟩
/-- block d is a deck -/
def Dk (w : World) (d : Nat) : Prop := ∃ (A : Option Addr) (n c k : Nat) (zs : List Int), Blk w d 62 #[.slice A n c, .int .i64 k] ∧ Rd w A n 1 (ints zs) ∧ k ≤ n ∧ n ≤ 9223372036854775807 ∧ (0 < n → ∀ ad, A = some ad → ad.block < d)
theorem Dk.ext {w w' : World} {d : Nat} (h : Dk w d) (he : Ext w w') : Dk w' d := by
  obtain ⟨A, n, c, k, zs, h1, h2, h3⟩ := h
  exact ⟨A, n, c, k, zs, h1.ext he, h2.ext he, h3⟩
theorem Dk.but {w w' : World} {d : Nat} {S : List Nat} (h : Dk w d) (he : But S w w') (hS : ∀ x ∈ S, d < x) : Dk w' d := by
  obtain ⟨A, n, c, k, zs, h1, h2, h3, h4, h5⟩ := h
  exact ⟨A, n, c, k, zs, h1.but he (fun hm => by have := hS _ hm; omega), rd_but h2 he (fun hn ad hA hm => by have := hS _ hm; have := h5 hn ad hA; omega), h3, h4, h5⟩
theorem Dk.lt {w : World} {d : Nat} (h : Dk w d) : d < w.heap.size := by
  obtain ⟨A, n, c, k, zs, h1, _⟩ := h
  exact h1.lt
theorem Dk.far {w : World} {d : Nat} (h : Dk w d) {p : Addr} (hp : d < p.block) (u : Value) : Dk (w.setCell p u) d :=
  h.but (S := [p.block]) (But.setCell (But.refl _ _) (by simp) u) (fun x hx => by have := List.mem_singleton.1 hx; omega)

set_option maxHeartbeats 400000 in
theorem deck_any (A : Option Addr) (n c : Nat) (zs : List Int) (w : World) (hz : Rd w A n 1 (ints zs)) (hn : n ≤ 9223372036854775807) :
    Calls Try.prog 14 #[.slice A n c] w fun r w' => r = .returned (.pointer (some ⟨w.heap.size, 0, none⟩)) ∧ Dk w' w.heap.size ∧ Ext w w' := by
  go_enter Try.func14, Try.ntmps14
  go_wp2
  go_ret
  have hE : Ext w (w.alloc (.cells #[.slice A n c, .int .i64 0] 62)) := by (repeat (first | (with_reducible exact Ext.refl _) | assumption | (with_reducible refine Ext.alloc ?_ _) | (with_reducible refine Ext.drew ?_) | (with_reducible refine Ext.drewL ?_) | refine Ext.trans ?_ (by assumption)))
  exact ⟨rfl, ⟨A, n, c, 0, zs, Blk.new rfl, hz.ext hE, by omega, hn, fun h0 ad h => by obtain ⟨b, o, hA, hb⟩ := hz.lt (by omega) h0; rw [hA] at h; injection h with h; subst h; exact hb⟩, hE⟩

set_option maxHeartbeats 400000 in
theorem mod_any (v n : Int) (w : World) (h1 : 1 ≤ n) (h2 : n ≤ 9223372036854775807) :
    Calls Try.prog 7 #[.int .i64 v, .int .i64 n] w fun e w' => e = .returned (.int .i64 (v % n)) ∧ w = w' := by
  go_enter Try.func7, Try.ntmps7
  go_wp2
  · go_ret
    exact ⟨ret_int (tmod_lt h1 h2 (by assumption)), rfl⟩
  · go_ret
    exact ⟨ret_int (tmod_ge h1 (by assumption)), rfl⟩
theorem mod_to (v n : Int) (i : Nat) (w : World) (h1 : 1 ≤ n) (h2 : n ≤ 9223372036854775807) (h : v % n = (i : Int)) :
    Calls Try.prog 7 #[.int .i64 v, .int .i64 n] w fun e w' => e = .returned (.int .i64 (i : Int)) ∧ w = w' := by
  rw [← h]; exact mod_any v n w h1 h2

def RetNext (d : Nat) (m : Int) (w : World) (r : Ending) (w' : World) : Prop := ∃ x : Nat, r = .returned (.int .i64 (x : Int)) ∧ (x : Int) < m ∧ Dk w' d ∧ But [d] w w'
set_option maxHeartbeats 400000 in
theorem next_any (d : Nat) (m : Int) (w : World) (hd : Dk w d) (hm : 1 ≤ m) (hm2 : m ≤ 9223372036854775807) :
    Calls Try.prog 25 #[.pointer (some ⟨d, 0, none⟩), .int .i64 m] w (RetNext d m w) := by
  obtain ⟨A, n, c, k, zs, h1, h2, h3, h4, hAd⟩ := hd
  have hc := h1.cell
  have hf := h1.froz
  have hkb : (k : Int) ≤ 9223372036854775807 := by omega
  by_cases hlt : k < n
  · obtain ⟨b, o, u, rfl, hku, hcell⟩ := h2.at_ hlt
    obtain ⟨z, rfl⟩ : ∃ z, u = .int .i64 z := by
      simp only [ints, List.getElem?_map, Option.map_eq_some_iff] at hku
      obtain ⟨z, _, h⟩ := hku
      exact ⟨z, h.symm⟩
    have hbl : b < d := hAd (by omega) _ rfl
    have hbd : b ≠ d := by omega
    have hdb : d ≠ b := fun e => hbd e.symm
    have hdec : decide ((n : Int) ≤ k) = false := by simp; omega
    have hdec' : decide (n ≤ k) = false := by simp; omega
    have b1 : (k : Int) + 1 - 1 = k := by omega
    have b2 : (k : Int) < n := by omega
    have hr0 := Int.emod_nonneg z (b := m) (by omega)
    have hr1 := Int.emod_lt_of_pos z (b := m) (by omega)
    obtain ⟨q, hq⟩ : ∃ q : Nat, z % m = (q : Int) := ⟨(z % m).toNat, by omega⟩
    have Hq := Lib.hid hq
    have Hku := Lib.hid hku
    clear hku hq
    go_enter Try.func25, Try.ntmps25
    go_wp2
    refine wp_region_ext [(true, 0), (true, 1), (true, 2), (true, 3), (true, 4), (true, 5), (true, 6), (true, 7), (true, 8), (true, 9)] Try.mixed (by kernel_rfl) (by simp only [pick, List.filterMap_cons, List.filterMap_nil, List.getElem?_toArray, List.getElem?_cons_succ, List.getElem?_cons_zero, Option.map_some]; rfl) ?_
    intro hx
    repeat (first
      | (refine wpL_take hx (v := ?_) (by rfl) (fun _ hc => ?_) ?_
         rotate_left
         focus (go_simp; (try go_ints); exact rfl)
         simp only [Act.put, List.setIfInBounds_toArray, List.set_cons_zero, List.set_cons_succ])
      | (refine wpL_skip (by rfl) ?_; simp only [Act.put, List.setIfInBounds_toArray, List.set_cons_zero, List.set_cons_succ])
      | (refine wpL_call (by rfl) (fun K hK => ?_); go_simp; (first | (refine hK _ _ ?_ ?_; (focus ((repeat (first | (with_reducible exact Ext.refl _) | assumption | (with_reducible refine Ext.alloc ?_ _) | (with_reducible refine Ext.drew ?_) | (with_reducible refine Ext.drewL ?_) | refine Ext.trans ?_ (by assumption))); done))) | (refine hK undef _ ?_ ?_; (focus ((repeat (first | (with_reducible exact Ext.refl _) | assumption | (with_reducible refine Ext.alloc ?_ _) | (with_reducible refine Ext.drew ?_) | (with_reducible refine Ext.drewL ?_) | refine Ext.trans ?_ (by assumption))); done)))); clear hK; intro hr; replace hx := hx.trans hr; clear hr; try simp only [Act.put, List.setIfInBounds_toArray, List.set_cons_zero, List.set_cons_succ]))
    refine wpL_end ?_
    go_wp2
    refine wp_region_ext [(true, 0), (true, 1), (true, 2), (true, 3), (true, 4), (true, 5), (true, 6), (true, 7), (true, 8), (true, 9), (true, 10), (true, 11), (false, 12), (true, 13)] Try.mixed (by kernel_rfl) (by simp only [pick, List.filterMap_cons, List.filterMap_nil, List.getElem?_toArray, List.getElem?_cons_succ, List.getElem?_cons_zero, Option.map_some]; rfl) ?_
    intro hx
    repeat (first
      | (refine wpL_take hx (v := ?_) (by rfl) (fun _ hc => ?_) ?_
         rotate_left
         focus (go_simp; (try go_ints); exact rfl)
         simp only [Act.put, List.setIfInBounds_toArray, List.set_cons_zero, List.set_cons_succ])
      | (refine wpL_skip (by rfl) ?_; simp only [Act.put, List.setIfInBounds_toArray, List.set_cons_zero, List.set_cons_succ])
      | (refine wpL_call (by rfl) (fun K hK => ?_); go_simp; go_at_call 7; refine (mod_to _ _ q _ (by omega) (by omega) Hq.out).mono ?_; rintro e w1 ⟨rfl, rfl⟩; refine hK _ _ (Ext.refl _) ?_; clear hK; intro hr; replace hx := hx.trans hr; clear hr; simp only [Act.put, List.setIfInBounds_toArray, List.set_cons_zero, List.set_cons_succ])
      | (refine wpL_call (by rfl) (fun K hK => ?_); go_simp; (first | (refine hK _ _ ?_ ?_; (focus ((repeat (first | (with_reducible exact Ext.refl _) | assumption | (with_reducible refine Ext.alloc ?_ _) | (with_reducible refine Ext.drew ?_) | (with_reducible refine Ext.drewL ?_) | refine Ext.trans ?_ (by assumption))); done))) | (refine hK undef _ ?_ ?_; (focus ((repeat (first | (with_reducible exact Ext.refl _) | assumption | (with_reducible refine Ext.alloc ?_ _) | (with_reducible refine Ext.drew ?_) | (with_reducible refine Ext.drewL ?_) | refine Ext.trans ?_ (by assumption))); done)))); clear hK; intro hr; replace hx := hx.trans hr; clear hr; try simp only [Act.put, List.setIfInBounds_toArray, List.set_cons_zero, List.set_cons_succ]))
    refine wpL_end ?_
    go_wp2
    go_ret
    have hB : But [d] w (w.setCell ⟨d, 1, none⟩ (.int .i64 ((k : Int) + 1))).drew.drew := But.drew (But.drew (But.setCell (But.refl _ _) (by simp) _))
    refine ⟨q, rfl, by have := Hq.out; omega, ⟨some ⟨b, o, none⟩, n, c, k + 1, zs, ?_, rd_but h2 hB (fun h0 ad h => by simp only [List.mem_singleton]; have := hAd h0 ad h; omega), by omega, h4, hAd⟩, hB⟩
    have := (h1.set_ 1 (.int .i64 ((k : Int) + 1))).drew.drew
    exact this
  · have hdec : decide ((n : Int) ≤ k) = true := by simp; omega
    go_enter Try.func25, Try.ntmps25
    go_wp2
    refine wp_region_ext [(true, 0), (true, 1), (true, 2), (true, 3), (true, 4), (true, 5), (true, 6), (true, 7), (true, 8), (true, 9)] Try.mixed (by kernel_rfl) (by simp only [pick, List.filterMap_cons, List.filterMap_nil, List.getElem?_toArray, List.getElem?_cons_succ, List.getElem?_cons_zero, Option.map_some]; rfl) ?_
    intro hx
    repeat (first
      | (refine wpL_take hx (v := ?_) (by rfl) (fun _ hc => ?_) ?_
         rotate_left
         focus (go_simp; (try go_ints); exact rfl)
         simp only [Act.put, List.setIfInBounds_toArray, List.set_cons_zero, List.set_cons_succ])
      | (refine wpL_skip (by rfl) ?_; simp only [Act.put, List.setIfInBounds_toArray, List.set_cons_zero, List.set_cons_succ])
      | (refine wpL_call (by rfl) (fun K hK => ?_); go_simp; (first | (refine hK _ _ ?_ ?_; (focus ((repeat (first | (with_reducible exact Ext.refl _) | assumption | (with_reducible refine Ext.alloc ?_ _) | (with_reducible refine Ext.drew ?_) | (with_reducible refine Ext.drewL ?_) | refine Ext.trans ?_ (by assumption))); done))) | (refine hK undef _ ?_ ?_; (focus ((repeat (first | (with_reducible exact Ext.refl _) | assumption | (with_reducible refine Ext.alloc ?_ _) | (with_reducible refine Ext.drew ?_) | (with_reducible refine Ext.drewL ?_) | refine Ext.trans ?_ (by assumption))); done)))); clear hK; intro hr; replace hx := hx.trans hr; clear hr; try simp only [Act.put, List.setIfInBounds_toArray, List.set_cons_zero, List.set_cons_succ]))
    refine wpL_end ?_
    go_wp2
    go_ret
    have hE : Ext w w.drew := by (repeat (first | (with_reducible exact Ext.refl _) | assumption | (with_reducible refine Ext.alloc ?_ _) | (with_reducible refine Ext.drew ?_) | (with_reducible refine Ext.drewL ?_) | refine Ext.trans ?_ (by assumption)))
    exact ⟨0, rfl, by omega, Dk.ext ⟨A, n, c, k, zs, h1, h2, h3, h4, hAd⟩ hE, hE.but _⟩
end Go.Proofs.Ytljkadpconghnaa
