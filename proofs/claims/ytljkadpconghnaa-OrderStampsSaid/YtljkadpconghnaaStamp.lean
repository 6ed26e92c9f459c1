/- The walks of order.Stamp, order.Before and their references, and of the law OrderStamps. No condition beyond the ranges that each theorem states. -/
import Derived.Test.YtljkadpconghnaaRows
import Derived.WalkKit
import Derived.WalkSpells
import Derived.WalkLawsBesides
import Derived.Test.YtljkadpconghnaaDraw
namespace Go.Proofs.Ytljkadpconghnaa
open Go.RowKit Go.Draw

theorem Try.mixed : Try.prog.follows .mixedOrders = true := by kernel_rfl

theorem ret_int {k : IntKind} {a b : Int} (h : a = b) : Ending.returned (.int k a) = .returned (.int k b) := by rw [h]

theorem tmod_lt {v n : Int} (h1 : 1 ≤ n) (h2 : n ≤ 9223372036854775807) (h : v.tmod n < 0) : wrap64 (v.tmod n + n) = v % n := by
  have hb : 0 ≤ v % n := Int.emod_nonneg _ (by omega)
  have hl : v % n < n := Int.emod_lt_of_pos _ (by omega)
  have he : v % n = v.tmod n + n := by
    have h4 := Int.tmod_eq_emod (a := v) (b := n)
    rw [h4] at h
    split at h
    · omega
    · rename_i hc; rw [h4, if_neg hc]; have : (n.natAbs : Int) = n := by omega
      omega
  rw [← he]
  unfold wrap64
  omega

theorem tmod_ge {v n : Int} (h1 : 1 ≤ n) (h : 0 ≤ v.tmod n) : v.tmod n = v % n := by
  have hl : v % n < n := Int.emod_lt_of_pos _ (by omega)
  have h4 := Int.tmod_eq_emod (a := v) (b := n)
  rw [h4] at h ⊢
  split at h
  · rename_i hc; rw [if_pos hc]; omega
  · have : (n.natAbs : Int) = n := by omega
    omega

set_option maxHeartbeats 400000 in
theorem mod_any (v n : Int) (w : World) (h1 : 1 ≤ n) (h2 : n ≤ 9223372036854775807) :
    Calls Try.prog 7 #[.int .i64 v, .int .i64 n] w fun e w' => e = .returned (.int .i64 (v % n)) ∧ w = w' := by
  go_enter Try.func7, Try.ntmps7
  go_wp2
  · go_ret
    exact ⟨ret_int (tmod_lt h1 h2 (by assumption)), rfl⟩
  · go_ret
    exact ⟨ret_int (tmod_ge h1 (by assumption)), rfl⟩

set_option maxHeartbeats 400000 in
theorem stamp_any (a b c d e : Int) (w : World) (h1 : 0 ≤ b) (h2 : b < 4)  (h3 : 0 ≤ a) (h4 : a < 4294967296) :
    Calls Try.prog 8 #[.agg #[.int .i64 a, .int .i64 b, .int .i64 c, .int .i64 d, .int .i64 e]] w fun r w' => r = .returned (.int .i64 (b * 4294967296 + a)) ∧ Ext w w' := by
  go_enter Try.func8, Try.ntmps8
  go_wp2
  go_ret
  exact ⟨rfl, by (repeat (first | exact Ext.refl _ | assumption | refine Ext.alloc ?_ _ | refine Ext.drew ?_ | refine Ext.drewL ?_ | refine Ext.trans ?_ (by assumption)))⟩

set_option maxHeartbeats 400000 in
theorem rstamp_any (a b c d e : Int) (w : World) (h1 : 0 ≤ b) (h2 : b < 4)  (h3 : 0 ≤ a) (h4 : a < 4294967296) :
    Calls Try.prog 9 #[.agg #[.int .i64 a, .int .i64 b, .int .i64 c, .int .i64 d, .int .i64 e]] w fun r w' => r = .returned (.int .i64 (b * 4294967296 + a)) ∧ Ext w w' := by
  go_enter Try.func9, Try.ntmps9
  go_wp2
  go_ret
  exact ⟨rfl, by (repeat (first | exact Ext.refl _ | assumption | refine Ext.alloc ?_ _ | refine Ext.drew ?_ | refine Ext.drewL ?_ | refine Ext.trans ?_ (by assumption)))⟩


set_option maxHeartbeats 400000 in
theorem before_any (a b c d e a' b' c' d' e' : Int) (w : World) (h1 : 0 ≤ b) (h2 : b < 4)  (h3 : 0 ≤ a) (h4 : a < 4294967296) (h1' : 0 ≤ b') (h2' : b' < 4)  (h3' : 0 ≤ a') (h4' : a' < 4294967296) :
    Calls Try.prog 10 #[.agg #[.int .i64 a, .int .i64 b, .int .i64 c, .int .i64 d, .int .i64 e], .agg #[.int .i64 a', .int .i64 b', .int .i64 c', .int .i64 d', .int .i64 e']] w fun r w' => r = .returned (.bool (decide (b * 4294967296 + a < b' * 4294967296 + a'))) ∧ Ext w w' := by
  go_enter Try.func10, Try.ntmps10
  go_wp2
  refine wp_region_ext [(true, 0), (true, 2), (false, 1), (false, 3), (true, 4), (true, 5)] Try.mixed (by kernel_rfl) (by simp only [pick, List.filterMap_cons, List.filterMap_nil, List.getElem?_toArray, List.getElem?_cons_succ, List.getElem?_cons_zero, Option.map_some]; rfl) ?_
  intro hx
  repeat (first
    | (refine wpL_take hx (v := ?_) (by rfl) (fun _ hc => ?_) ?_
       rotate_left
       focus (go_simp; exact rfl)
       simp only [Act.put, List.setIfInBounds_toArray, List.set_cons_zero, List.set_cons_succ])
    | (refine wpL_skip (by rfl) ?_; simp only [Act.put, List.setIfInBounds_toArray, List.set_cons_zero, List.set_cons_succ])
    | (refine wpL_call (by rfl) (fun K hK => ?_); go_simp; go_at_call 8; refine (stamp_any _ _ _ _ _ _ (by omega) (by omega) (by omega) (by omega)).mono ?_; rintro e w1 ⟨rfl, hb⟩; have hc := Ext.cell hb; refine hK _ _ (hb) ?_; clear hK; intro hr; replace hx := hx.trans hr; clear hr; simp only [Act.put, List.setIfInBounds_toArray, List.set_cons_zero, List.set_cons_succ])
    | (refine wpL_call (by rfl) (fun K hK => ?_); go_simp; go_at_call 9; refine (rstamp_any _ _ _ _ _ _ (by omega) (by omega) (by omega) (by omega)).mono ?_; rintro e w1 ⟨rfl, hb⟩; have hc := Ext.cell hb; refine hK _ _ (hb) ?_; clear hK; intro hr; replace hx := hx.trans hr; clear hr; simp only [Act.put, List.setIfInBounds_toArray, List.set_cons_zero, List.set_cons_succ])
    | (refine wpL_call (by rfl) (fun K hK => ?_); go_simp; (first | refine hK _ _ (by (repeat (first | exact Ext.refl _ | assumption | refine Ext.alloc ?_ _ | refine Ext.drew ?_ | refine Ext.drewL ?_ | refine Ext.trans ?_ (by assumption)))) ?_ | refine hK undef _ (by (repeat (first | exact Ext.refl _ | assumption | refine Ext.alloc ?_ _ | refine Ext.drew ?_ | refine Ext.drewL ?_ | refine Ext.trans ?_ (by assumption)))) ?_); clear hK; intro hr; replace hx := hx.trans hr; clear hr; try simp only [Act.put, List.setIfInBounds_toArray, List.set_cons_zero, List.set_cons_succ]))
  refine wpL_end ?_
  go_wp2
  go_ret
  exact ⟨rfl, by (repeat (first | exact Ext.refl _ | assumption | refine Ext.alloc ?_ _ | refine Ext.drew ?_ | refine Ext.drewL ?_ | refine Ext.trans ?_ (by assumption)))⟩

set_option maxHeartbeats 400000 in
theorem rbefore_any (a b c d e a' b' c' d' e' : Int) (w : World) (h1 : 0 ≤ b) (h2 : b < 4)  (h3 : 0 ≤ a) (h4 : a < 4294967296) (h1' : 0 ≤ b') (h2' : b' < 4)  (h3' : 0 ≤ a') (h4' : a' < 4294967296) :
    Calls Try.prog 11 #[.agg #[.int .i64 a, .int .i64 b, .int .i64 c, .int .i64 d, .int .i64 e], .agg #[.int .i64 a', .int .i64 b', .int .i64 c', .int .i64 d', .int .i64 e']] w fun r w' => r = .returned (.bool (decide (b * 4294967296 + a < b' * 4294967296 + a'))) ∧ Ext w w' := by
  go_enter Try.func11, Try.ntmps11
  go_wp2
  refine wp_region_ext [(true, 0), (true, 2), (false, 1), (false, 3), (true, 4), (true, 5)] Try.mixed (by kernel_rfl) (by simp only [pick, List.filterMap_cons, List.filterMap_nil, List.getElem?_toArray, List.getElem?_cons_succ, List.getElem?_cons_zero, Option.map_some]; rfl) ?_
  intro hx
  repeat (first
    | (refine wpL_take hx (v := ?_) (by rfl) (fun _ hc => ?_) ?_
       rotate_left
       focus (go_simp; exact rfl)
       simp only [Act.put, List.setIfInBounds_toArray, List.set_cons_zero, List.set_cons_succ])
    | (refine wpL_skip (by rfl) ?_; simp only [Act.put, List.setIfInBounds_toArray, List.set_cons_zero, List.set_cons_succ])
    | (refine wpL_call (by rfl) (fun K hK => ?_); go_simp; go_at_call 8; refine (stamp_any _ _ _ _ _ _ (by omega) (by omega) (by omega) (by omega)).mono ?_; rintro e w1 ⟨rfl, hb⟩; have hc := Ext.cell hb; refine hK _ _ (hb) ?_; clear hK; intro hr; replace hx := hx.trans hr; clear hr; simp only [Act.put, List.setIfInBounds_toArray, List.set_cons_zero, List.set_cons_succ])
    | (refine wpL_call (by rfl) (fun K hK => ?_); go_simp; go_at_call 9; refine (rstamp_any _ _ _ _ _ _ (by omega) (by omega) (by omega) (by omega)).mono ?_; rintro e w1 ⟨rfl, hb⟩; have hc := Ext.cell hb; refine hK _ _ (hb) ?_; clear hK; intro hr; replace hx := hx.trans hr; clear hr; simp only [Act.put, List.setIfInBounds_toArray, List.set_cons_zero, List.set_cons_succ])
    | (refine wpL_call (by rfl) (fun K hK => ?_); go_simp; (first | refine hK _ _ (by (repeat (first | exact Ext.refl _ | assumption | refine Ext.alloc ?_ _ | refine Ext.drew ?_ | refine Ext.drewL ?_ | refine Ext.trans ?_ (by assumption)))) ?_ | refine hK undef _ (by (repeat (first | exact Ext.refl _ | assumption | refine Ext.alloc ?_ _ | refine Ext.drew ?_ | refine Ext.drewL ?_ | refine Ext.trans ?_ (by assumption)))) ?_); clear hK; intro hr; replace hx := hx.trans hr; clear hr; try simp only [Act.put, List.setIfInBounds_toArray, List.set_cons_zero, List.set_cons_succ]))
  refine wpL_end ?_
  go_wp2
  go_ret
  exact ⟨rfl, by (repeat (first | exact Ext.refl _ | assumption | refine Ext.alloc ?_ _ | refine Ext.drew ?_ | refine Ext.drewL ?_ | refine Ext.trans ?_ (by assumption)))⟩


set_option maxHeartbeats 400000 in
theorem awake_any (w : World) : Calls Try.prog 12 #[] w fun r w' => r = .returned (.bool true) ∧ Ext w w' := by
  go_enter Try.func12, Try.ntmps12
  go_wp2_with (first | (go_at_call 8; refine (stamp_any _ _ _ _ _ _ (by omega) (by omega) (by omega) (by omega)).mono ?_; rintro e w1 ⟨rfl, hb⟩; have hc := Ext.cell hb) | (go_at_call 9; refine (rstamp_any _ _ _ _ _ _ (by omega) (by omega) (by omega) (by omega)).mono ?_; rintro e w1 ⟨rfl, hb⟩; have hc := Ext.cell hb) | (go_at_call 7; refine (mod_any _ _ _ (by omega) (by omega)).mono ?_; rintro e w1 ⟨rfl, rfl⟩) | (go_at_call 10; refine (before_any _ _ _ _ _ _ _ _ _ _ _ (by omega) (by omega) (by omega) (by omega) (by omega) (by omega) (by omega) (by omega)).mono ?_; rintro e w1 ⟨rfl, hb⟩; have hc := Ext.cell hb) | (go_at_call 11; refine (rbefore_any _ _ _ _ _ _ _ _ _ _ _ (by omega) (by omega) (by omega) (by omega) (by omega) (by omega) (by omega) (by omega)).mono ?_; rintro e w1 ⟨rfl, hb⟩; have hc := Ext.cell hb))
  go_ret
  exact ⟨rfl, by (repeat (first | exact Ext.refl _ | assumption | refine Ext.alloc ?_ _ | refine Ext.drew ?_ | refine Ext.drewL ?_ | refine Ext.trans ?_ (by assumption)))⟩


/-- the four pairs that the loop goes over -/
def Pairs (wr : World) (s : Nat) : Prop := ∀ k, k < 4 → ∃ (b : Nat) (p q c d e p' q' c' d' e' : Int), 0 ≤ q ∧ q < 4 ∧ 0 ≤ p ∧ p < 4294967296 ∧ 0 ≤ q' ∧ q' < 4 ∧ 0 ≤ p' ∧ p' < 4294967296 ∧
  wr.cell? ⟨s, k, none⟩ = some (.slice (some ⟨b, 0, none⟩) 2 2) ∧ wr.cell? ⟨b, 0, none⟩ = some (.int .i64 p) ∧ wr.cell? ⟨b, 1, none⟩ = some (.int .i64 q) ∧ wr.cell? ⟨b, 2, none⟩ = some (.int .i64 c) ∧ wr.cell? ⟨b, 3, none⟩ = some (.int .i64 d) ∧ wr.cell? ⟨b, 4, none⟩ = some (.int .i64 e) ∧
  wr.cell? ⟨b, 5, none⟩ = some (.int .i64 p') ∧ wr.cell? ⟨b, 6, none⟩ = some (.int .i64 q') ∧ wr.cell? ⟨b, 7, none⟩ = some (.int .i64 c') ∧ wr.cell? ⟨b, 8, none⟩ = some (.int .i64 d') ∧ wr.cell? ⟨b, 9, none⟩ = some (.int .i64 e')
theorem Pairs.ext {w w' : World} {s : Nat} (h : Pairs w s) (he : Ext w w') : Pairs w' s := by
  intro k hk
  obtain ⟨b, p, q, c, d, e, p', q', c', d', e', h1, h2, h3, h4, h5, h6, h7, h8, f0, f1, f2, f3, f4, f5, f6, f7, f8, f9, f10⟩ := h k hk
  have hc := he.cell
  refine ⟨b, p, q, c, d, e, p', q', c', d', e', h1, h2, h3, h4, h5, h6, h7, h8, ?_, ?_, ?_, ?_, ?_, ?_, ?_, ?_, ?_, ?_, ?_⟩ <;> (rw [hc _ _ (by simp [*])]; assumption)
theorem pairs_start (w : World) (s b t c u : Int) (h1 : 0 ≤ s) (h2 : s < 4294967296) (h3 : 0 ≤ b) (h4 : b < 4) (h5 : 0 ≤ t) (h6 : t < 4294967296) (h7 : 0 ≤ c) (h8 : c < 4) (h9 : 0 ≤ u) (h10 : u < 4294967296) :
    Pairs (((((((((w.alloc (.cells #[.int .i64 s, .int .i64 b, .int .i64 0, .int .i64 0, .int .i64 0] 24)).alloc (.cells #[.int .i64 t, .int .i64 c, .int .i64 0, .int .i64 0, .int .i64 0] 24)).alloc
      (.cells #[.int .i64 u, .int .i64 b, .int .i64 0, .int .i64 0, .int .i64 0] 24)).alloc (.cells #[.int .i64 s, .int .i64 b, .int .i64 0, .int .i64 0, .int .i64 0, .int .i64 t, .int .i64 c, .int .i64 0, .int .i64 0, .int .i64 0] 24)).alloc
      (.cells #[.int .i64 t, .int .i64 c, .int .i64 0, .int .i64 0, .int .i64 0, .int .i64 s, .int .i64 b, .int .i64 0, .int .i64 0, .int .i64 0] 24)).alloc (.cells #[.int .i64 s, .int .i64 b, .int .i64 0, .int .i64 0, .int .i64 0, .int .i64 s, .int .i64 b, .int .i64 0, .int .i64 0, .int .i64 0] 24)).alloc
      (.cells #[.int .i64 s, .int .i64 b, .int .i64 0, .int .i64 0, .int .i64 0, .int .i64 u, .int .i64 b, .int .i64 0, .int .i64 0, .int .i64 0] 24)).alloc
      (.cells #[.slice (some ⟨w.heap.size + 1 + 1 + 1, 0, none⟩) 2 2, .slice (some ⟨w.heap.size + 1 + 1 + 1 + 1, 0, none⟩) 2 2, .slice (some ⟨w.heap.size + 1 + 1 + 1 + 1 + 1, 0, none⟩) 2 2, .slice (some ⟨w.heap.size + 1 + 1 + 1 + 1 + 1 + 1, 0, none⟩) 2 2] 25)).drew) (w.heap.size + 7) := by
  intro k hk
  have hk' : k = 0 ∨ k = 1 ∨ k = 2 ∨ k = 3 := by omega
  rcases hk' with rfl | rfl | rfl | rfl
  · refine ⟨w.heap.size + 3, s, b, 0, 0, 0, t, c, 0, 0, 0, by omega, by omega, by omega, by omega, by omega, by omega, by omega, by omega, ?_, ?_, ?_, ?_, ?_, ?_, ?_, ?_, ?_, ?_, ?_⟩ <;> go_simp
  · refine ⟨w.heap.size + 4, t, c, 0, 0, 0, s, b, 0, 0, 0, by omega, by omega, by omega, by omega, by omega, by omega, by omega, by omega, ?_, ?_, ?_, ?_, ?_, ?_, ?_, ?_, ?_, ?_, ?_⟩ <;> go_simp
  · refine ⟨w.heap.size + 5, s, b, 0, 0, 0, s, b, 0, 0, 0, by omega, by omega, by omega, by omega, by omega, by omega, by omega, by omega, ?_, ?_, ?_, ?_, ?_, ?_, ?_, ?_, ?_, ?_, ?_⟩ <;> go_simp
  · refine ⟨w.heap.size + 6, s, b, 0, 0, 0, u, b, 0, 0, 0, by omega, by omega, by omega, by omega, by omega, by omega, by omega, by omega, ?_, ?_, ?_, ?_, ?_, ?_, ?_, ?_, ?_, ?_, ?_⟩ <;> go_simp

set_option maxRecDepth 100000 in
set_option maxHeartbeats 1000000 in
theorem stamps_any (a b c d : Int) (w : World) :
    Calls Try.prog 3 #[.int .i64 a, .int .i64 b, .int .i64 c, .int .i64 d] w fun r w' => r = .returned (.bool true) ∧ Ext w w' := by
  have x1 : 0 ≤ a % 4 := Int.emod_nonneg _ (by omega)
  have x2 : a % 4 < 4 := Int.emod_lt_of_pos _ (by omega)
  have x3 : 0 ≤ b % 4294967296 := Int.emod_nonneg _ (by omega)
  have x4 : b % 4294967296 < 4294967296 := Int.emod_lt_of_pos _ (by omega)
  have y1 : 0 ≤ c % 4 := Int.emod_nonneg _ (by omega)
  have y2 : c % 4 < 4 := Int.emod_lt_of_pos _ (by omega)
  have y3 : 0 ≤ d % 4294967296 := Int.emod_nonneg _ (by omega)
  have y4 : d % 4294967296 < 4294967296 := Int.emod_lt_of_pos _ (by omega)
  have z1 : 0 ≤ d % 3 := Int.emod_nonneg _ (by omega)
  have z2 : d % 3 < 3 := Int.emod_lt_of_pos _ (by omega)
  go_enter Try.func3, Try.ntmps3
  go_wp2_with (first | (go_at_call 7; refine (mod_any _ _ _ (by omega) (by omega)).mono ?_; rintro e w1 ⟨rfl, rfl⟩) | (go_at_call 10; refine (before_any _ _ _ _ _ _ _ _ _ _ _ (by omega) (by omega) (by omega) (by omega) (by omega) (by omega) (by omega) (by omega)).mono ?_; rintro e w1 ⟨rfl, hb⟩; have hc := Ext.cell hb) | (go_at_call 11; refine (rbefore_any _ _ _ _ _ _ _ _ _ _ _ (by omega) (by omega) (by omega) (by omega) (by omega) (by omega) (by omega) (by omega)).mono ?_; rintro e w1 ⟨rfl, hb⟩; have hc := Ext.cell hb))
  refine wp_region_below (w.heap.size + 2) [(true, 0), (true, 1), (true, 2), (true, 3), (true, 4), (false, 5), (false, 6)] Try.mixed (by kernel_rfl) (by simp only [pick, List.filterMap_cons, List.filterMap_nil, List.getElem?_toArray, List.getElem?_cons_succ, List.getElem?_cons_zero, Option.map_some]; rfl) ?_
  intro hx
  repeat (first
    | (refine wpL_takeB hx (v := ?_) (by rfl) (fun _ hc => ?_) ?_
       rotate_left
       focus (go_simp; exact rfl)
       simp only [Act.put, List.setIfInBounds_toArray, List.set_cons_zero, List.set_cons_succ])
    | (refine wpL_quietB 7 (args := ?_) (v := ?_) (by rfl) (fun _ => ?_) (fun _ => ?_) ?_; rotate_left 2; (focus (go_simp; exact rfl)); (focus (refine (mod_any _ _ _ (by omega) (by omega)).mono ?_; rintro _ _ ⟨rfl, rfl⟩; refine ⟨?_, ?_⟩ <;> exact rfl)); simp only [Act.put, List.setIfInBounds_toArray, List.set_cons_zero, List.set_cons_succ])
    | (refine wpL_skip (by rfl) ?_; simp only [Act.put, List.setIfInBounds_toArray, List.set_cons_zero, List.set_cons_succ])
    | (refine wpL_call (by rfl) (fun K hK => ?_); go_simp; go_at_call 7; refine (mod_any _ _ _ (by omega) (by omega)).mono ?_; rintro e w1 ⟨rfl, rfl⟩; refine hK _ _ ((Ext.refl _).below (by (first | omega | (simp; done) | (simp; omega)))) ?_; clear hK; intro hr; replace hx := hx.trans hr; clear hr; simp only [Act.put, List.setIfInBounds_toArray, List.set_cons_zero, List.set_cons_succ])
    | (refine wpL_call (by rfl) (fun K hK => ?_); go_simp; go_at_call 10; refine (before_any _ _ _ _ _ _ _ _ _ _ _ (by omega) (by omega) (by omega) (by omega) (by omega) (by omega) (by omega) (by omega)).mono ?_; rintro e w1 ⟨rfl, hb⟩; have hc := Ext.cell hb; refine hK _ _ ((hb).below (by (first | omega | (simp; done) | (simp; omega)))) ?_; clear hK; intro hr; replace hx := hx.trans hr; clear hr; simp only [Act.put, List.setIfInBounds_toArray, List.set_cons_zero, List.set_cons_succ])
    | (refine wpL_call (by rfl) (fun K hK => ?_); go_simp; go_at_call 11; refine (rbefore_any _ _ _ _ _ _ _ _ _ _ _ (by omega) (by omega) (by omega) (by omega) (by omega) (by omega) (by omega) (by omega)).mono ?_; rintro e w1 ⟨rfl, hb⟩; have hc := Ext.cell hb; refine hK _ _ ((hb).below (by (first | omega | (simp; done) | (simp; omega)))) ?_; clear hK; intro hr; replace hx := hx.trans hr; clear hr; simp only [Act.put, List.setIfInBounds_toArray, List.set_cons_zero, List.set_cons_succ])
    | (refine wpL_call (by rfl) (fun K hK => ?_); go_simp; (first | refine hK _ _ (by (repeat (first | exact Below.refl _ _ | assumption | refine Below.drew ?_ | refine belowL_drew ?_ | refine Below.setCell ?_ (by (first | omega | (simp; done) | (simp; omega))) _ | refine belowL_setCell ?_ (by (first | omega | (simp; done) | (simp; omega))) | refine belowL_alloc ?_ (by (first | omega | (simp; done) | (simp; omega))) (by (first | omega | (simp; done) | (simp; omega))) | refine Below.alloc ?_ (by (first | omega | (simp; done) | (simp; omega))) _))) ?_ | refine hK undef _ (by (repeat (first | exact Below.refl _ _ | assumption | refine Below.drew ?_ | refine belowL_drew ?_ | refine Below.setCell ?_ (by (first | omega | (simp; done) | (simp; omega))) _ | refine belowL_setCell ?_ (by (first | omega | (simp; done) | (simp; omega))) | refine belowL_alloc ?_ (by (first | omega | (simp; done) | (simp; omega))) (by (first | omega | (simp; done) | (simp; omega))) | refine Below.alloc ?_ (by (first | omega | (simp; done) | (simp; omega))) _))) ?_); clear hK; intro hr; replace hx := hx.trans hr; clear hr; try simp only [Act.put, List.setIfInBounds_toArray, List.set_cons_zero, List.set_cons_succ]))
  refine wpL_end ?_
  go_wp2
  have hP : Pairs _ (w.heap.size + 7) := pairs_start w (b % 4294967296) (a % 4) (d % 4294967296) (c % 4) (d % 3) x3 x4 x1 x2 y3 y4 y1 y2 z1 (by omega)
  go_loopw [43] (fun i wr => ∃ k : Nat, k ≤ 4 ∧ i = .int .i64 k ∧ Ext w wr ∧ Pairs wr (w.heap.size + 7)) (fun i _ => 4 - (intOf i).toNat)
  case atStart => exact ⟨0, by omega, rfl, by (repeat (first | exact Ext.refl _ | assumption | refine Ext.alloc ?_ _ | refine Ext.drew ?_ | refine Ext.drewL ?_ | refine Ext.trans ?_ (by assumption))), hP⟩
  case round =>
    obtain ⟨k, hk, rfl, hE, hP⟩ := hrel
    by_cases hlt : k < 4
    · have hdec : decide ((k : Int) < 4) = true := by simp; omega
      obtain ⟨b, p, q, c, d, e, p', q', c', d', e', hq1, hq2, hp1, hp2, hq1', hq2', hp1', hp2', f0, f1, f2, f3, f4, f5, f6, f7, f8, f9, f10⟩ := hP k hlt
      go_wp2
      refine wp_region_ext [(true, 0), (true, 1), (true, 2), (true, 4), (true, 5), (true, 6), (false, 3), (false, 7), (true, 8), (true, 9), (true, 10), (true, 11), (true, 12), (true, 13), (true, 14), (true, 15), (true, 17), (true, 18), (true, 19), (true, 20), (true, 21), (true, 22), (false, 16), (false, 23), (true, 24), (true, 25)] Try.mixed (by kernel_rfl) (by simp only [pick, List.filterMap_cons, List.filterMap_nil, List.getElem?_toArray, List.getElem?_cons_succ, List.getElem?_cons_zero, Option.map_some]; rfl) ?_
      intro hx
      repeat (first
        | (refine wpL_take hx (v := ?_) (by rfl) (fun _ hc => ?_) ?_
           rotate_left
           focus (go_simp; exact rfl)
           simp only [Act.put, List.setIfInBounds_toArray, List.set_cons_zero, List.set_cons_succ])
        | (refine wpL_skip (by rfl) ?_; simp only [Act.put, List.setIfInBounds_toArray, List.set_cons_zero, List.set_cons_succ])
        | (refine wpL_call (by rfl) (fun K hK => ?_); go_simp; go_at_call 8; refine (stamp_any _ _ _ _ _ _ (by omega) (by omega) (by omega) (by omega)).mono ?_; rintro e w1 ⟨rfl, hb⟩; have hc := Ext.cell hb; refine hK _ _ (hb) ?_; clear hK; intro hr; replace hx := hx.trans hr; clear hr; simp only [Act.put, List.setIfInBounds_toArray, List.set_cons_zero, List.set_cons_succ])
        | (refine wpL_call (by rfl) (fun K hK => ?_); go_simp; go_at_call 9; refine (rstamp_any _ _ _ _ _ _ (by omega) (by omega) (by omega) (by omega)).mono ?_; rintro e w1 ⟨rfl, hb⟩; have hc := Ext.cell hb; refine hK _ _ (hb) ?_; clear hK; intro hr; replace hx := hx.trans hr; clear hr; simp only [Act.put, List.setIfInBounds_toArray, List.set_cons_zero, List.set_cons_succ])
        | (refine wpL_call (by rfl) (fun K hK => ?_); go_simp; go_at_call 7; refine (mod_any _ _ _ (by omega) (by omega)).mono ?_; rintro e w1 ⟨rfl, rfl⟩; refine hK _ _ (Ext.refl _) ?_; clear hK; intro hr; replace hx := hx.trans hr; clear hr; simp only [Act.put, List.setIfInBounds_toArray, List.set_cons_zero, List.set_cons_succ])
        | (refine wpL_call (by rfl) (fun K hK => ?_); go_simp; go_at_call 10; refine (before_any _ _ _ _ _ _ _ _ _ _ _ (by omega) (by omega) (by omega) (by omega) (by omega) (by omega) (by omega) (by omega)).mono ?_; rintro e w1 ⟨rfl, hb⟩; have hc := Ext.cell hb; refine hK _ _ (hb) ?_; clear hK; intro hr; replace hx := hx.trans hr; clear hr; simp only [Act.put, List.setIfInBounds_toArray, List.set_cons_zero, List.set_cons_succ])
        | (refine wpL_call (by rfl) (fun K hK => ?_); go_simp; go_at_call 11; refine (rbefore_any _ _ _ _ _ _ _ _ _ _ _ (by omega) (by omega) (by omega) (by omega) (by omega) (by omega) (by omega) (by omega)).mono ?_; rintro e w1 ⟨rfl, hb⟩; have hc := Ext.cell hb; refine hK _ _ (hb) ?_; clear hK; intro hr; replace hx := hx.trans hr; clear hr; simp only [Act.put, List.setIfInBounds_toArray, List.set_cons_zero, List.set_cons_succ])
        | (refine wpL_call (by rfl) (fun K hK => ?_); go_simp; (first | refine hK _ _ (by (repeat (first | exact Ext.refl _ | assumption | refine Ext.alloc ?_ _ | refine Ext.drew ?_ | refine Ext.drewL ?_ | refine Ext.trans ?_ (by assumption)))) ?_ | refine hK undef _ (by (repeat (first | exact Ext.refl _ | assumption | refine Ext.alloc ?_ _ | refine Ext.drew ?_ | refine Ext.drewL ?_ | refine Ext.trans ?_ (by assumption)))) ?_); clear hK; intro hr; replace hx := hx.trans hr; clear hr; try simp only [Act.put, List.setIfInBounds_toArray, List.set_cons_zero, List.set_cons_succ]))
      refine wpL_end ?_
      go_wp2
      go_roundw
      case rel => exact ⟨k + 1, by omega, by go_num, by (repeat (first | exact Ext.refl _ | assumption | refine Ext.alloc ?_ _ | refine Ext.drew ?_ | refine Ext.drewL ?_ | refine Ext.trans ?_ (by assumption))), hP.ext (by (repeat (first | exact Ext.refl _ | assumption | refine Ext.alloc ?_ _ | refine Ext.drew ?_ | refine Ext.drewL ?_ | refine Ext.trans ?_ (by assumption))))⟩
      case measure => simp [intOf]; omega
    · go_wp2_with (first | (go_at_call 12; refine (awake_any _).mono ?_; rintro e w1 ⟨rfl, hb⟩; have hc := Ext.cell hb))
      go_ret
      exact ⟨rfl, by (repeat (first | exact Ext.refl _ | assumption | refine Ext.alloc ?_ _ | refine Ext.drew ?_ | refine Ext.drewL ?_ | refine Ext.trans ?_ (by assumption)))⟩
end Go.Proofs.Ytljkadpconghnaa
