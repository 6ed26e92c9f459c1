/- The walks of Sum, Same and of smaller counts. Conditions: the ranges that each theorem states. -/
import Derived.Test.YtdacclclalhbaaaD
namespace Go.Proofs.Ytdacclclalhbaaa
open Go.RowKit Go.Draw

def add9 (a b : Nat → Int) : Nat → Int := fun i => a i + b i
/-- counts that may be added -/
def Fits (a b : Nat → Int) : Prop := ∀ i, i < 9 → -9223372036854775808 ≤ a i + b i ∧ a i + b i ≤ 9223372036854775807
theorem wrap_id {x : Int} (h : -9223372036854775808 ≤ x ∧ x ≤ 9223372036854775807) : wrap64 x = x := by
  unfold wrap64; omega
set_option maxRecDepth 100000 in
set_option maxHeartbeats 2000000 in
theorem sum_any (a b : Nat → Int) (w : World) (hf : Fits a b) :
    Calls Try.prog 15 #[.agg (stV a), .agg (stV b)] w fun e w' => e = .returned (.agg (stV (add9 a b))) ∧ Ext w w' := by
  have f0 := hf 0 (by omega)
  have f1 := hf 1 (by omega)
  have f2 := hf 2 (by omega)
  have f3 := hf 3 (by omega)
  have f4 := hf 4 (by omega)
  have f5 := hf 5 (by omega)
  have f6 := hf 6 (by omega)
  have f7 := hf 7 (by omega)
  have f8 := hf 8 (by omega)
  clear hf
  simp only [stV, add9]
  generalize a 0 = a0 at *
  generalize a 1 = a1 at *
  generalize a 2 = a2 at *
  generalize a 3 = a3 at *
  generalize a 4 = a4 at *
  generalize a 5 = a5 at *
  generalize a 6 = a6 at *
  generalize a 7 = a7 at *
  generalize a 8 = a8 at *
  generalize b 0 = b0 at *
  generalize b 1 = b1 at *
  generalize b 2 = b2 at *
  generalize b 3 = b3 at *
  generalize b 4 = b4 at *
  generalize b 5 = b5 at *
  generalize b 6 = b6 at *
  generalize b 7 = b7 at *
  generalize b 8 = b8 at *
  go_enter Try.func15, Try.ntmps15
  go_wp2
  refine bodyPost_ret (v := .agg #[.int .i64 (a0 + b0), .int .i64 (a1 + b1), .int .i64 (a2 + b2), .int .i64 (a3 + b3), .int .i64 (a4 + b4), .int .i64 (a5 + b5), .int .i64 (a6 + b6), .int .i64 (a7 + b7), .int .i64 (a8 + b8)]) (by simp [results, Try.results15, go_sem]) rfl ⟨rfl, ?_⟩
  repeat (refine Ext.setCell ?_ (by show w.heap.size ≤ _; omega) _)
  (repeat (first | (with_reducible exact Ext.refl _) | assumption | (with_reducible refine Ext.alloc ?_ _) | (with_reducible refine Ext.drew ?_) | (with_reducible refine Ext.drewL ?_) | refine Ext.trans ?_ (by assumption)))
set_option maxRecDepth 100000 in
set_option maxHeartbeats 2000000 in
theorem rsum_any (a b : Nat → Int) (w : World) (hf : Fits a b) :
    Calls Try.prog 20 #[.agg (stV a), .agg (stV b)] w fun e w' => e = .returned (.agg (stV (add9 a b))) ∧ Ext w w' := by
  have f0 := hf 0 (by omega)
  have f1 := hf 1 (by omega)
  have f2 := hf 2 (by omega)
  have f3 := hf 3 (by omega)
  have f4 := hf 4 (by omega)
  have f5 := hf 5 (by omega)
  have f6 := hf 6 (by omega)
  have f7 := hf 7 (by omega)
  have f8 := hf 8 (by omega)
  clear hf
  simp only [stV, add9]
  generalize a 0 = a0 at *
  generalize a 1 = a1 at *
  generalize a 2 = a2 at *
  generalize a 3 = a3 at *
  generalize a 4 = a4 at *
  generalize a 5 = a5 at *
  generalize a 6 = a6 at *
  generalize a 7 = a7 at *
  generalize a 8 = a8 at *
  generalize b 0 = b0 at *
  generalize b 1 = b1 at *
  generalize b 2 = b2 at *
  generalize b 3 = b3 at *
  generalize b 4 = b4 at *
  generalize b 5 = b5 at *
  generalize b 6 = b6 at *
  generalize b 7 = b7 at *
  generalize b 8 = b8 at *
  go_enter Try.func20, Try.ntmps20
  go_wp2
  refine bodyPost_ret (v := .agg #[.int .i64 (a0 + b0), .int .i64 (a1 + b1), .int .i64 (a2 + b2), .int .i64 (a3 + b3), .int .i64 (a4 + b4), .int .i64 (a5 + b5), .int .i64 (a6 + b6), .int .i64 (a7 + b7), .int .i64 (a8 + b8)]) (by simp [results, Try.results20, go_sem]) rfl ⟨rfl, ?_⟩
  repeat (refine Ext.setCell ?_ (by show w.heap.size ≤ _; omega) _)
  (repeat (first | (with_reducible exact Ext.refl _) | assumption | (with_reducible refine Ext.alloc ?_ _) | (with_reducible refine Ext.drew ?_) | (with_reducible refine Ext.drewL ?_) | refine Ext.trans ?_ (by assumption)))

/-- smaller counts -/
def less9 (a : Nat → Int) : Nat → Int := fun i => a i / 4
set_option maxRecDepth 100000 in
set_option maxHeartbeats 2000000 in
theorem less_any (a : Nat → Int) (w : World) (hc : Cnts a) :
    Calls Try.prog 14 #[.agg (stV a)] w fun e w' => e = .returned (.agg (stV (less9 a))) ∧ Ext w w' := by
  have q : ∀ i, i < 9 → (a i).tdiv 4 = a i / 4 ∧ wrap64 (a i / 4) = a i / 4 := fun i hi => by
    obtain ⟨h1, h2⟩ := hc i hi
    refine ⟨Int.tdiv_eq_ediv_of_nonneg h1, wrap_id ⟨by omega, by omega⟩⟩
  obtain ⟨f0, g0⟩ := q 0 (by omega)
  obtain ⟨f1, g1⟩ := q 1 (by omega)
  obtain ⟨f2, g2⟩ := q 2 (by omega)
  obtain ⟨f3, g3⟩ := q 3 (by omega)
  obtain ⟨f4, g4⟩ := q 4 (by omega)
  obtain ⟨f5, g5⟩ := q 5 (by omega)
  obtain ⟨f6, g6⟩ := q 6 (by omega)
  obtain ⟨f7, g7⟩ := q 7 (by omega)
  obtain ⟨f8, g8⟩ := q 8 (by omega)
  clear q hc
  simp only [stV, less9]
  generalize a 0 = a0 at *
  generalize a 1 = a1 at *
  generalize a 2 = a2 at *
  generalize a 3 = a3 at *
  generalize a 4 = a4 at *
  generalize a 5 = a5 at *
  generalize a 6 = a6 at *
  generalize a 7 = a7 at *
  generalize a 8 = a8 at *
  go_enter Try.func14, Try.ntmps14
  go_wp2
  refine bodyPost_ret (v := .agg #[.int .i64 (a0 / 4), .int .i64 (a1 / 4), .int .i64 (a2 / 4), .int .i64 (a3 / 4), .int .i64 (a4 / 4), .int .i64 (a5 / 4), .int .i64 (a6 / 4), .int .i64 (a7 / 4), .int .i64 (a8 / 4)]) (by simp [results, Try.results14, go_sem]) rfl ⟨rfl, ?_⟩
  repeat (refine Ext.setCell ?_ (by show w.heap.size ≤ _; omega) _)
  (repeat (first | (with_reducible exact Ext.refl _) | assumption | (with_reducible refine Ext.alloc ?_ _) | (with_reducible refine Ext.drew ?_) | (with_reducible refine Ext.drewL ?_) | refine Ext.trans ?_ (by assumption)))

theorem same_any (x y k : Nat) (w : World) (hx : Is k x) (hy : Is k y) :
    Calls Try.prog 17 #[.float .f64 x, .float .f64 y] w fun e w' => e = .returned (.bool true) ∧ w = w' := by
  have h0 : ordK k k = 0 := by unfold ordK; rw [if_neg (by omega), if_pos rfl]
  go_enter Try.func17, Try.ntmps17
  go_wp2_with (first | (go_at_call 12; refine (rorder_any _ _ k k _ hx hy).mono ?_; rintro e w1 ⟨rfl, rfl⟩))
  go_ret
  exact ⟨rfl, rfl⟩
end Go.Proofs.Ytdacclclalhbaaa
