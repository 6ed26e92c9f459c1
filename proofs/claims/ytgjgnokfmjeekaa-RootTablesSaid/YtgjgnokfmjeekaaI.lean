/- The walk of the law RootHistory's parts. Conditions: the ranges that each theorem states. -/
import Derived.Test.YtgjgnokfmjeekaaH
import Derived.Deep.DeepCutAuto
namespace Go.Proofs.Ytgjgnokfmjeekaa
open Go.RowKit Go.Draw

set_option maxHeartbeats 400000 in
theorem few_any (A : Option Addr) (n c : Nat) (w : World) :
    Calls Try.prog 6 #[.slice A n c] w fun e w' => e = .returned (.bool (decide ((n : Int) ≤ 400))) ∧ w = w' := by
  go_enter Try.func6, Try.ntmps6
  go_wp2
  go_ret
  exact ⟨rfl, rfl⟩

theorem take_new : takeT (List.replicate 32 false) (List.replicate 32 0) 5 = ((List.replicate 32 false).set 0 true, (List.replicate 32 0).set 0 5, 1, 0) := by decide
theorem take_six : takeT ((List.replicate 32 false).set 0 true) ((List.replicate 32 0).set 0 5) 6 = (((List.replicate 32 false).set 0 true).set 1 true, ((List.replicate 32 0).set 0 5).set 1 6, 2, 0) := by decide
theorem drop_one : dropT (((List.replicate 32 false).set 0 true).set 1 true) (((List.replicate 32 0).set 0 5).set 1 6) 1 = ((((List.replicate 32 false).set 0 true).set 1 true).set 0 false, (((List.replicate 32 0).set 0 5).set 1 6).set 0 0, 0) := by decide
theorem take_seven : takeT ((((List.replicate 32 false).set 0 true).set 1 true).set 0 false) ((((List.replicate 32 0).set 0 5).set 1 6).set 0 0) 7 = (((((List.replicate 32 false).set 0 true).set 1 true).set 0 false).set 0 true, ((((List.replicate 32 0).set 0 5).set 1 6).set 0 0).set 0 7, 1, 0) := by decide

set_option maxHeartbeats 1000000 in
theorem awake_any (w : World) : Calls Try.prog 7 #[] w fun r w' => r = .returned (.bool true) ∧ Ext w w' := by
  go_enter Try.func7, Try.ntmps7
  go_wp2_with fail
  go_at_call 9
  refine (new_any _).mono ?_
  rintro e w1 ⟨A, c, B, d, rfl, hA, hB, hE⟩
  go_wp2_with fail
  go_at_call 12
  refine (take_any _ _ _ _ _ _ _ _ 5 _ (Rd.of_own hA) (Rd.of_own hB)).mono ?_
  rw [take_new]
  rintro e w2 ⟨A2, c2, B2, d2, rfl, hA2, hB2, hE2⟩
  go_wp2_with fail
  go_at_call 12
  refine (take_any _ _ _ _ _ _ _ _ 6 _ (Rd.of_own (own_alloc hA2 _)) (Rd.of_own (own_alloc hB2 _))).mono ?_
  rw [take_six]
  rintro e w3 ⟨A3, c3, B3, d3, rfl, hA3, hB3, hE3⟩
  have hb3 : Blk w3 w2.heap.size 30 #[.slice A2 32 c2, .slice B2 32 d2] := (Blk.new rfl).ext hE3
  have hc3 := hb3.cell
  have hf3 := hb3.froz
  go_wp2_with fail
  go_at_call 13
  refine (drop_any _ _ _ _ _ _ _ _ 1 _ (Rd.of_own (own_below (own_below hA3 (by simp) _) (by simp) _)) (Rd.of_own (own_below (own_below hB3 (by simp) _) (by simp) _))).mono ?_
  rw [drop_one]
  rintro e w4 ⟨A4, c4, B4, d4, rfl, hA4, hB4, hE4⟩
  have hb4 : Blk w4 w2.heap.size 30 #[.slice A3 32 c3, .slice B3 32 d3] := ((hb3.set_ 0 _).set_ 1 _).ext hE4
  have hc4 := hb4.cell
  have hf4 := hb4.froz
  have hl4 := hb3.lt
  go_wp2_with fail
  go_at_call 12
  refine (take_any _ _ _ _ _ _ _ _ 7 _ (Rd.of_own (own_below (own_below hA4 (by simp [World.setCell]; omega) _) (by simp [World.setCell]; omega) _)) (Rd.of_own (own_below (own_below hB4 (by simp [World.setCell]; omega) _) (by simp [World.setCell]; omega) _))).mono ?_
  rw [take_seven]
  rintro e w5 ⟨A5, c5, B5, d5, rfl, hA5, hB5, hE5⟩
  go_wp2_with fail
  go_ret
  refine ⟨rfl, ?_⟩
  have e2 : Ext w w2 := hE.trans hE2
  have z2 := e2.size_le
  have e3 : Ext w w3 := e2.trans ((Ext.refl _).alloc _ |>.trans hE3)
  have e4 : Ext w w4 := ((e3.setCell (p := ⟨w2.heap.size, 0, none⟩) (by exact z2) _).setCell (p := ⟨w2.heap.size, 1, none⟩) (by exact z2) _).trans hE4
  have e5 : Ext w w5 := ((e4.setCell (p := ⟨w2.heap.size, 0, none⟩) (by exact z2) _).setCell (p := ⟨w2.heap.size, 1, none⟩) (by exact z2) _).trans hE5
  (repeat (first | (with_reducible exact Ext.refl _) | assumption | (with_reducible refine Ext.alloc ?_ _) | (with_reducible refine Ext.drew ?_) | (with_reducible refine Ext.drewL ?_) | refine Ext.trans ?_ (by assumption)))
end Go.Proofs.Ytgjgnokfmjeekaa
