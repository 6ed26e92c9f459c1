/- The walks of awake and of the law StatsRatios. Conditions: the ranges that each theorem states. -/
import Derived.Test.YtdacclclalhbaaaF
import Derived.Laws.StructEq
namespace Go.Proofs.Ytdacclclalhbaaa
open Go.RowKit Go.Draw

theorem isnan_any (x : Nat) (w : World) (hx : NanW x) : Calls Try.prog 23 #[.float .f64 x] w fun e w' => e = .returned (.bool true) ∧ w = w' := by
  have o := (cmp_nan hx x).1
  go_enter Try.func23, Try.ntmps23
  go_wp2
  go_ret
  exact ⟨rfl, rfl⟩
theorem cnts_const {x : Int} (h : Cnt x) : Cnts (fun _ => x) := fun _ _ => h
theorem surv_nan (w : World) : Calls Try.prog 16 #[.agg #[.int .i64 0, .int .i64 0, .int .i64 0, .int .i64 0, .int .i64 0, .int .i64 0, .int .i64 0, .int .i64 0, .int .i64 0]] w fun e w' => ∃ r, e = .returned (.float .f64 r) ∧ NanW r ∧ Ext w w' := by
  refine (surv_any (fun _ => 0) w (cnts_const ⟨by omega, by omega⟩)).mono ?_
  rintro e w' ⟨r, rfl, hr, hE⟩
  refine ⟨r, rfl, ?_, hE⟩
  have hk : survK (fun _ => 0) = infW + 1 := none_
  rcases hr with ⟨h, _⟩ | ⟨_, h⟩
  · rw [hk] at h; omega
  · exact h
theorem cost_half (w : World) : Calls Try.prog 13 #[.agg #[.int .i64 2, .int .i64 0, .int .i64 0, .int .i64 0, .int .i64 0, .int .i64 0, .int .i64 0, .int .i64 0, .int .i64 1]] w fun e w' => e = .returned (.float .f64 4602678819172646912) ∧ Ext w w' := by
  refine (cost_any (nine 2 0 0 0 0 0 0 0 1) w (cnts_nine ⟨by omega, by omega⟩ ⟨by omega, by omega⟩ ⟨by omega, by omega⟩ ⟨by omega, by omega⟩ ⟨by omega, by omega⟩ ⟨by omega, by omega⟩ ⟨by omega, by omega⟩ ⟨by omega, by omega⟩ ⟨by omega, by omega⟩)).mono ?_
  rintro e w' ⟨r, rfl, hr, hE⟩
  have hk : costK (nine 2 0 0 0 0 0 0 0 1) = 4602678819172646912 := half
  rcases hr with ⟨h, rfl⟩ | ⟨h, _⟩
  · rw [hk]; exact ⟨rfl, hE⟩
  · rw [hk] at h; exact absurd h (by decide)
set_option maxHeartbeats 1000000 in
theorem awake_any (w : World) : Calls Try.prog 11 #[] w fun r w' => r = .returned (.bool true) ∧ Ext w w' := by
  have hh : FloatKind.f64.format.order 4602678819172646912 4602678819172646912 = some .eq := by decide +kernel
  have hb : bestI (costAt []) 0 = -1 := rfl
  go_enter Try.func11, Try.ntmps11
  go_wp2_with (first | (go_at_call 16; refine (surv_nan _).mono ?_; rintro e w1 ⟨r, rfl, hr, hE1⟩) | (go_at_call 23; refine (isnan_any _ _ hr).mono ?_; rintro e w1 ⟨rfl, rfl⟩) | (go_at_call 13; refine (cost_half _).mono ?_; rintro e w1 ⟨rfl, hE2⟩) | (go_at_call 9; refine (best_any none 0 0 [] _ (Rd.nil_ _ _ _) rfl (by omega) (by simp)).mono ?_; rintro e w1 ⟨rfl, hE3⟩))
  go_ret
  exact ⟨rfl, by (repeat (first | (with_reducible exact Ext.refl _) | assumption | (with_reducible refine Ext.alloc ?_ _) | (with_reducible refine Ext.drew ?_) | (with_reducible refine Ext.drewL ?_) | refine Ext.trans ?_ (by assumption)))⟩

theorem fits_of {a b : Nat → Int} (ha : Cnts a) (hb : Cnts b) : Fits a b := fun i hi => by
  obtain ⟨h1, h2⟩ := ha i hi
  obtain ⟨h3, h4⟩ := hb i hi
  omega
theorem add9_comm (a b : Nat → Int) : add9 b a = add9 a b := by funext i; simp [add9, Int.add_comm]
theorem eq_st (s : Nat → Int) (w : World) : (binOp .eql 28 (.agg (stV s)) (.agg (stV s))).run Try.prog w = .ok (.bool true) w := by
  simp only [stV]
  go_simp
theorem sum_comm (a b : Nat → Int) (w : World) (hf : Fits b a) :
    Calls Try.prog 15 #[.agg (stV b), .agg (stV a)] w fun e w' => e = .returned (.agg (stV (add9 a b))) ∧ Ext w w' := by
  rw [← add9_comm]; exact sum_any b a w hf
set_option maxRecDepth 100000 in
set_option maxHeartbeats 1000000 in
theorem ratios_any (A : Option Addr) (n c : Nat) (zs : List Int) (w : World) (hz : Rd w A n 1 (ints zs)) (hn : n ≤ 9223372036854775807) :
    Calls Try.prog 5 #[.slice A n c] w fun r w' => r = .returned (.bool true) ∧ Ext w w' := by
  go_enter Try.func5, Try.ntmps5
  go_wp2_with fail
  go_at_call 6
  refine (deck_any A n c zs _ hz hn).mono ?_
  rintro e w1 ⟨rfl, hD, hE1⟩
  go_wp2_with fail
  go_at_call 8
  refine (counts_any _ _ hD).mono ?_
  rintro e w2 ⟨a, rfl, hca, hD, hB1⟩
  go_wp2_with fail
  go_at_call 8
  refine (counts_any _ _ hD).mono ?_
  rintro e w3 ⟨b, rfl, hcb, hD, hB2⟩
  have hE : Ext w w3 := But.ext (But.ext hE1 hB1 (by simp)) hB2 (by simp)
  clear hD hB1 hB2 hE1 hz
  simp only [stV]
  go_upto_region 3 with fail
  have heq := eq_st (add9 a b)
  have hcm := add9_comm a b
  refine wp_region_ext [(true, 0), (true, 2), (false, 1), (false, 3), (false, 4), (true, 5), (true, 6), (true, 8), (false, 7), (false, 9), (false, 10), (true, 11), (true, 12), (true, 13), (true, 14), (true, 16), (true, 17), (false, 15), (false, 18), (true, 19), (true, 20), (true, 21), (true, 22), (true, 23), (true, 25), (true, 26), (false, 24), (false, 27), (true, 28), (true, 29), (true, 30), (false, 31), (true, 32), (true, 33)] Try.mixed (by kernel_rfl) (by simp only [pick, List.filterMap_cons, List.filterMap_nil, List.getElem?_toArray, List.getElem?_cons_succ, List.getElem?_cons_zero, Option.map_some]; rfl) ?_
  intro hx
  repeat (first
    | (refine wpL_take hx (v := ?_) (by rfl) (fun _ hc => ?_) ?_
       rotate_left
       focus (go_simp; (try go_ints); exact rfl)
       simp only [Act.put, List.setIfInBounds_toArray, List.set_cons_zero, List.set_cons_succ])
    | (refine wpL_skip (by rfl) ?_; simp only [Act.put, List.setIfInBounds_toArray, List.set_cons_zero, List.set_cons_succ])
    | (refine wpL_call (by rfl) (fun K hK => ?_); go_simp; go_at_call 16; refine (surv_any _ _ (by assumption)).mono ?_; rintro e w1 ⟨r1, rfl, hr1, hE1⟩; refine hK _ _ (hE1) ?_; clear hK; intro hr; replace hx := hx.trans hr; clear hr; simp only [Act.put, List.setIfInBounds_toArray, List.set_cons_zero, List.set_cons_succ])
    | (refine wpL_call (by rfl) (fun K hK => ?_); go_simp; go_at_call 18; refine (rsurv_any _ _ (by assumption)).mono ?_; rintro e w1 ⟨r2, rfl, hr2, hE2⟩; refine hK _ _ (hE2) ?_; clear hK; intro hr; replace hx := hx.trans hr; clear hr; simp only [Act.put, List.setIfInBounds_toArray, List.set_cons_zero, List.set_cons_succ])
    | (refine wpL_call (by rfl) (fun K hK => ?_); go_simp; go_at_call 13; refine (cost_any _ _ (by assumption)).mono ?_; rintro e w1 ⟨r3, rfl, hr3, hE3⟩; refine hK _ _ (hE3) ?_; clear hK; intro hr; replace hx := hx.trans hr; clear hr; simp only [Act.put, List.setIfInBounds_toArray, List.set_cons_zero, List.set_cons_succ])
    | (refine wpL_call (by rfl) (fun K hK => ?_); go_simp; go_at_call 19; refine (rcost_any _ _ (by assumption)).mono ?_; rintro e w1 ⟨r4, rfl, hr4, hE4⟩; refine hK _ _ (hE4) ?_; clear hK; intro hr; replace hx := hx.trans hr; clear hr; simp only [Act.put, List.setIfInBounds_toArray, List.set_cons_zero, List.set_cons_succ])
    | (refine wpL_call (by rfl) (fun K hK => ?_); go_simp; go_at_call 17; refine (same_any _ _ _ _ (by assumption) (by assumption)).mono ?_; rintro e w1 ⟨rfl, rfl⟩; refine hK _ _ (Ext.refl _) ?_; clear hK; intro hr; replace hx := hx.trans hr; clear hr; simp only [Act.put, List.setIfInBounds_toArray, List.set_cons_zero, List.set_cons_succ])
    | (refine wpL_call (by rfl) (fun K hK => ?_); go_simp; go_at_call 20; refine (rsum_any _ _ _ (fits_of (by assumption) (by assumption))).mono ?_; rintro e w1 ⟨rfl, hE5⟩; refine hK _ _ (hE5) ?_; clear hK; intro hr; replace hx := hx.trans hr; clear hr; simp only [Act.put, List.setIfInBounds_toArray, List.set_cons_zero, List.set_cons_succ])
    | (refine wpL_call (by rfl) (fun K hK => ?_); go_simp; go_at_call 15; refine (sum_any _ _ _ (fits_of (by assumption) (by assumption))).mono ?_; rintro e w1 ⟨rfl, hE6⟩; (try rw [hcm]); refine hK _ _ (hE6) ?_; clear hK; intro hr; replace hx := hx.trans hr; clear hr; simp only [Act.put, List.setIfInBounds_toArray, List.set_cons_zero, List.set_cons_succ])
    | (refine wpL_call (by rfl) (fun K hK => ?_); go_simp; go_at_call 11; refine (awake_any _).mono ?_; rintro e w1 ⟨rfl, hE8⟩; refine hK _ _ (hE8) ?_; clear hK; intro hr; replace hx := hx.trans hr; clear hr; simp only [Act.put, List.setIfInBounds_toArray, List.set_cons_zero, List.set_cons_succ])
    | (refine wpL_call (by rfl) (fun K hK => ?_); go_simp; (first | (refine hK _ _ ?_ ?_; (focus ((repeat (first | (with_reducible exact Ext.refl _) | assumption | (with_reducible refine Ext.alloc ?_ _) | (with_reducible refine Ext.drew ?_) | (with_reducible refine Ext.drewL ?_) | refine Ext.trans ?_ (by assumption))); done))) | (refine hK undef _ ?_ ?_; (focus ((repeat (first | (with_reducible exact Ext.refl _) | assumption | (with_reducible refine Ext.alloc ?_ _) | (with_reducible refine Ext.drew ?_) | (with_reducible refine Ext.drewL ?_) | refine Ext.trans ?_ (by assumption))); done)))); clear hK; intro hr; replace hx := hx.trans hr; clear hr; try simp only [Act.put, List.setIfInBounds_toArray, List.set_cons_zero, List.set_cons_succ]))
  refine wpL_end ?_
  go_wp2
  go_ret
  exact ⟨rfl, by (repeat (first | (with_reducible exact Ext.refl _) | assumption | (with_reducible refine Ext.alloc ?_ _) | (with_reducible refine Ext.drew ?_) | (with_reducible refine Ext.drewL ?_) | refine Ext.trans ?_ (by assumption)))⟩
end Go.Proofs.Ytdacclclalhbaaa
