/- The walk of the presets' reference. Conditions: the ranges that each theorem states. -/
import Derived.Test.YtkioemeohofpcaaB
import Derived.Laws.StructEq
namespace Go.Proofs.Ytkioemeohofpcaa
open Go.RowKit Go.Draw

theorem own_last (W : World) (b base : Nat) (cs : List Value) (n : Nat) (hb : b = W.heap.size) (hbase : base ≤ W.heap.size) (hn : n ≤ 1000000) (h : cs.length = n * 4) : (W.alloc (.cells cs.toArray 41)).ownsRow base 41 4 (.slice (some ⟨b, 0, none⟩) n n) n cs :=
  own_new hb hbase hn h
set_option maxHeartbeats 1000000 in
theorem rget_ok0 (p : Int) (w : World) (he : pctE p = 0) (hp0 : p ≠ 0) : Calls Try.prog 10 #[.string sSemi, .int .i64 p] w fun r w' => RetC w (sSemi, [(0,0,0,0)], 1, 0) r w' := by
  have hp1 : ¬ p < 1 := by
    unfold pctE at he
    split at he
    · omega
    · cases he
  have b2 : decide (p < 1) = false := by simpa using hp1
  clear hp1 hp0
  simp only [sSemi]
  go_enter Try.func10, Try.ntmps10
  go_wp2_with (first | (go_at_call 17; refine (rpercent_any _ _).mono ?_; rintro e w1 ⟨rfl, rfl⟩))
  refine bodyPost_ret (v := .tuple #[.agg #[.string sSemi, .slice (some ⟨w.heap.size + 1 + 1, 0, none⟩) 1 1, .int .i64 1], .int .i64 0]) (by simp [results, Try.results10, go_sem, sSemi]) rfl ⟨_, _, rfl, ?_, by (repeat (first | (with_reducible exact Ext.refl _) | assumption | (with_reducible refine Ext.alloc ?_ _) | (with_reducible refine Ext.drew ?_) | (with_reducible refine Ext.drewL ?_) | refine Ext.trans ?_ (by assumption)))⟩
  refine own_last _ _ _ (flatR [(0,0,0,0)]) _ ?_ ?_ ?_ ?_
  · simp
  · simp; omega
  · simp
  · rfl
set_option maxHeartbeats 1000000 in
theorem rget_bad0 (p : Int) (w : World) (hb : ¬ (pctE p = 0 ∧ p ≠ 0)) : Calls Try.prog 10 #[.string sSemi, .int .i64 p] w fun r w' => RetC w (⟨#[]⟩, [], 0, 6) r w' := by
  simp only [sSemi]
  by_cases he : pctE p = 0
  · have hp0 : p = 0 := by
      rcases Classical.em (p = 0) with h | h
      · exact h
      · exact absurd ⟨he, h⟩ hb
    subst hp0
    clear hb
    go_enter Try.func10, Try.ntmps10
    go_wp2_with (first | (go_at_call 17; refine (rpercent_any _ _).mono ?_; rintro e w1 ⟨rfl, rfl⟩))
    refine bodyPost_ret (v := .tuple #[.agg #[.string ⟨#[]⟩, .slice none 0 0, .int .i64 0], .int .i64 6]) (by simp [results, Try.results10, go_sem]) rfl ⟨none, 0, rfl, own_nil _ _ _ _, by (repeat (first | (with_reducible exact Ext.refl _) | assumption | (with_reducible refine Ext.alloc ?_ _) | (with_reducible refine Ext.drew ?_) | (with_reducible refine Ext.drewL ?_) | refine Ext.trans ?_ (by assumption)))⟩
  · have b1 : (pctE p != 0) = true := by simpa using he
    clear he hb
    go_enter Try.func10, Try.ntmps10
    go_wp2_with (first | (go_at_call 17; refine (rpercent_any _ _).mono ?_; rintro e w1 ⟨rfl, rfl⟩))
    refine bodyPost_ret (v := .tuple #[.agg #[.string ⟨#[]⟩, .slice none 0 0, .int .i64 0], .int .i64 6]) (by simp [results, Try.results10, go_sem]) rfl ⟨none, 0, rfl, own_nil _ _ _ _, by (repeat (first | (with_reducible exact Ext.refl _) | assumption | (with_reducible refine Ext.alloc ?_ _) | (with_reducible refine Ext.drew ?_) | (with_reducible refine Ext.drewL ?_) | refine Ext.trans ?_ (by assumption)))⟩
set_option maxHeartbeats 1000000 in
theorem rget_ok1 (p : Int) (w : World) (he : pctE p = 0) (hp0 : p ≠ 0) : Calls Try.prog 10 #[.string sAppel, .int .i64 p] w fun r w' => RetC w (sAppel, [(0,0,0,1),(0,0,0,1)], 8, 0) r w' := by
  have hp1 : ¬ p < 1 := by
    unfold pctE at he
    split at he
    · omega
    · cases he
  have b2 : decide (p < 1) = false := by simpa using hp1
  clear hp1 hp0
  simp only [sAppel]
  go_enter Try.func10, Try.ntmps10
  go_wp2_with (first | (go_at_call 17; refine (rpercent_any _ _).mono ?_; rintro e w1 ⟨rfl, rfl⟩))
  refine bodyPost_ret (v := .tuple #[.agg #[.string sAppel, .slice (some ⟨w.heap.size + 1 + 1, 0, none⟩) 2 2, .int .i64 8], .int .i64 0]) (by simp [results, Try.results10, go_sem, sAppel]) rfl ⟨_, _, rfl, ?_, by (repeat (first | (with_reducible exact Ext.refl _) | assumption | (with_reducible refine Ext.alloc ?_ _) | (with_reducible refine Ext.drew ?_) | (with_reducible refine Ext.drewL ?_) | refine Ext.trans ?_ (by assumption)))⟩
  refine own_last _ _ _ (flatR [(0,0,0,1),(0,0,0,1)]) _ ?_ ?_ ?_ ?_
  · simp
  · simp; omega
  · simp
  · rfl
set_option maxHeartbeats 1000000 in
theorem rget_bad1 (p : Int) (w : World) (hb : ¬ (pctE p = 0 ∧ p ≠ 0)) : Calls Try.prog 10 #[.string sAppel, .int .i64 p] w fun r w' => RetC w (⟨#[]⟩, [], 0, 6) r w' := by
  simp only [sAppel]
  by_cases he : pctE p = 0
  · have hp0 : p = 0 := by
      rcases Classical.em (p = 0) with h | h
      · exact h
      · exact absurd ⟨he, h⟩ hb
    subst hp0
    clear hb
    go_enter Try.func10, Try.ntmps10
    go_wp2_with (first | (go_at_call 17; refine (rpercent_any _ _).mono ?_; rintro e w1 ⟨rfl, rfl⟩))
    refine bodyPost_ret (v := .tuple #[.agg #[.string ⟨#[]⟩, .slice none 0 0, .int .i64 0], .int .i64 6]) (by simp [results, Try.results10, go_sem]) rfl ⟨none, 0, rfl, own_nil _ _ _ _, by (repeat (first | (with_reducible exact Ext.refl _) | assumption | (with_reducible refine Ext.alloc ?_ _) | (with_reducible refine Ext.drew ?_) | (with_reducible refine Ext.drewL ?_) | refine Ext.trans ?_ (by assumption)))⟩
  · have b1 : (pctE p != 0) = true := by simpa using he
    clear he hb
    go_enter Try.func10, Try.ntmps10
    go_wp2_with (first | (go_at_call 17; refine (rpercent_any _ _).mono ?_; rintro e w1 ⟨rfl, rfl⟩))
    refine bodyPost_ret (v := .tuple #[.agg #[.string ⟨#[]⟩, .slice none 0 0, .int .i64 0], .int .i64 6]) (by simp [results, Try.results10, go_sem]) rfl ⟨none, 0, rfl, own_nil _ _ _ _, by (repeat (first | (with_reducible exact Ext.refl _) | assumption | (with_reducible refine Ext.alloc ?_ _) | (with_reducible refine Ext.drew ?_) | (with_reducible refine Ext.drewL ?_) | refine Ext.trans ?_ (by assumption)))⟩
set_option maxHeartbeats 1000000 in
theorem rget_ok2 (p : Int) (w : World) (he : pctE p = 0) (hp0 : p ≠ 0) : Calls Try.prog 10 #[.string sFixed, .int .i64 p] w fun r w' => RetC w (sFixed, [(pctX p,1,0,1),(0,0,0,1)], 8, 0) r w' := by
  have hp1 : ¬ p < 1 := by
    unfold pctE at he
    split at he
    · omega
    · cases he
  have b2 : decide (p < 1) = false := by simpa using hp1
  clear hp1 hp0
  simp only [sFixed]
  go_enter Try.func10, Try.ntmps10
  go_wp2_with (first | (go_at_call 17; refine (rpercent_any _ _).mono ?_; rintro e w1 ⟨rfl, rfl⟩))
  refine bodyPost_ret (v := .tuple #[.agg #[.string sFixed, .slice (some ⟨w.heap.size + 1 + 1, 0, none⟩) 2 2, .int .i64 8], .int .i64 0]) (by simp [results, Try.results10, go_sem, sFixed]) rfl ⟨_, _, rfl, ?_, by (repeat (first | (with_reducible exact Ext.refl _) | assumption | (with_reducible refine Ext.alloc ?_ _) | (with_reducible refine Ext.drew ?_) | (with_reducible refine Ext.drewL ?_) | refine Ext.trans ?_ (by assumption)))⟩
  refine own_last _ _ _ (flatR [(pctX p,1,0,1),(0,0,0,1)]) _ ?_ ?_ ?_ ?_
  · simp
  · simp; omega
  · simp
  · rfl
set_option maxHeartbeats 1000000 in
theorem rget_bad2 (p : Int) (w : World) (hb : ¬ (pctE p = 0 ∧ p ≠ 0)) : Calls Try.prog 10 #[.string sFixed, .int .i64 p] w fun r w' => RetC w (⟨#[]⟩, [], 0, 6) r w' := by
  simp only [sFixed]
  by_cases he : pctE p = 0
  · have hp0 : p = 0 := by
      rcases Classical.em (p = 0) with h | h
      · exact h
      · exact absurd ⟨he, h⟩ hb
    subst hp0
    clear hb
    go_enter Try.func10, Try.ntmps10
    go_wp2_with (first | (go_at_call 17; refine (rpercent_any _ _).mono ?_; rintro e w1 ⟨rfl, rfl⟩))
    refine bodyPost_ret (v := .tuple #[.agg #[.string ⟨#[]⟩, .slice none 0 0, .int .i64 0], .int .i64 6]) (by simp [results, Try.results10, go_sem]) rfl ⟨none, 0, rfl, own_nil _ _ _ _, by (repeat (first | (with_reducible exact Ext.refl _) | assumption | (with_reducible refine Ext.alloc ?_ _) | (with_reducible refine Ext.drew ?_) | (with_reducible refine Ext.drewL ?_) | refine Ext.trans ?_ (by assumption)))⟩
  · have b1 : (pctE p != 0) = true := by simpa using he
    clear he hb
    go_enter Try.func10, Try.ntmps10
    go_wp2_with (first | (go_at_call 17; refine (rpercent_any _ _).mono ?_; rintro e w1 ⟨rfl, rfl⟩))
    refine bodyPost_ret (v := .tuple #[.agg #[.string ⟨#[]⟩, .slice none 0 0, .int .i64 0], .int .i64 6]) (by simp [results, Try.results10, go_sem]) rfl ⟨none, 0, rfl, own_nil _ _ _ _, by (repeat (first | (with_reducible exact Ext.refl _) | assumption | (with_reducible refine Ext.alloc ?_ _) | (with_reducible refine Ext.drew ?_) | (with_reducible refine Ext.drewL ?_) | refine Ext.trans ?_ (by assumption)))⟩
set_option maxHeartbeats 1000000 in
theorem rget_ok3 (p : Int) (w : World) (he : pctE p = 0) (hp0 : p ≠ 0) : Calls Try.prog 10 #[.string sOlder, .int .i64 p] w fun r w' => RetC w (sOlder, [(pctX p,0,1,0)], 0, 0) r w' := by
  have hp1 : ¬ p < 1 := by
    unfold pctE at he
    split at he
    · omega
    · cases he
  have b2 : decide (p < 1) = false := by simpa using hp1
  clear hp1 hp0
  simp only [sOlder]
  go_enter Try.func10, Try.ntmps10
  go_wp2_with (first | (go_at_call 17; refine (rpercent_any _ _).mono ?_; rintro e w1 ⟨rfl, rfl⟩))
  refine bodyPost_ret (v := .tuple #[.agg #[.string sOlder, .slice (some ⟨w.heap.size + 1 + 1, 0, none⟩) 1 1, .int .i64 0], .int .i64 0]) (by simp [results, Try.results10, go_sem, sOlder]) rfl ⟨_, _, rfl, ?_, by (repeat (first | (with_reducible exact Ext.refl _) | assumption | (with_reducible refine Ext.alloc ?_ _) | (with_reducible refine Ext.drew ?_) | (with_reducible refine Ext.drewL ?_) | refine Ext.trans ?_ (by assumption)))⟩
  refine own_last _ _ _ (flatR [(pctX p,0,1,0)]) _ ?_ ?_ ?_ ?_
  · simp
  · simp; omega
  · simp
  · rfl
set_option maxHeartbeats 1000000 in
theorem rget_bad3 (p : Int) (w : World) (hb : ¬ (pctE p = 0 ∧ p ≠ 0)) : Calls Try.prog 10 #[.string sOlder, .int .i64 p] w fun r w' => RetC w (⟨#[]⟩, [], 0, 6) r w' := by
  simp only [sOlder]
  by_cases he : pctE p = 0
  · have hp0 : p = 0 := by
      rcases Classical.em (p = 0) with h | h
      · exact h
      · exact absurd ⟨he, h⟩ hb
    subst hp0
    clear hb
    go_enter Try.func10, Try.ntmps10
    go_wp2_with (first | (go_at_call 17; refine (rpercent_any _ _).mono ?_; rintro e w1 ⟨rfl, rfl⟩))
    refine bodyPost_ret (v := .tuple #[.agg #[.string ⟨#[]⟩, .slice none 0 0, .int .i64 0], .int .i64 6]) (by simp [results, Try.results10, go_sem]) rfl ⟨none, 0, rfl, own_nil _ _ _ _, by (repeat (first | (with_reducible exact Ext.refl _) | assumption | (with_reducible refine Ext.alloc ?_ _) | (with_reducible refine Ext.drew ?_) | (with_reducible refine Ext.drewL ?_) | refine Ext.trans ?_ (by assumption)))⟩
  · have b1 : (pctE p != 0) = true := by simpa using he
    clear he hb
    go_enter Try.func10, Try.ntmps10
    go_wp2_with (first | (go_at_call 17; refine (rpercent_any _ _).mono ?_; rintro e w1 ⟨rfl, rfl⟩))
    refine bodyPost_ret (v := .tuple #[.agg #[.string ⟨#[]⟩, .slice none 0 0, .int .i64 0], .int .i64 6]) (by simp [results, Try.results10, go_sem]) rfl ⟨none, 0, rfl, own_nil _ _ _ _, by (repeat (first | (with_reducible exact Ext.refl _) | assumption | (with_reducible refine Ext.alloc ?_ _) | (with_reducible refine Ext.drew ?_) | (with_reducible refine Ext.drewL ?_) | refine Ext.trans ?_ (by assumption)))⟩
set_option maxHeartbeats 1000000 in
theorem rget_ok4 (p : Int) (w : World) (he : pctE p = 0) (hp0 : p ≠ 0) : Calls Try.prog 10 #[.string sXx, .int .i64 p] w fun r w' => RetC w (sXx, [(pctX p,0,1,1),(pctX p,0,1,1)], 0, 0) r w' := by
  have hp1 : ¬ p < 1 := by
    unfold pctE at he
    split at he
    · omega
    · cases he
  have b2 : decide (p < 1) = false := by simpa using hp1
  clear hp1 hp0
  simp only [sXx]
  go_enter Try.func10, Try.ntmps10
  go_wp2_with (first | (go_at_call 17; refine (rpercent_any _ _).mono ?_; rintro e w1 ⟨rfl, rfl⟩))
  refine bodyPost_ret (v := .tuple #[.agg #[.string sXx, .slice (some ⟨w.heap.size + 1 + 1, 0, none⟩) 2 2, .int .i64 0], .int .i64 0]) (by simp [results, Try.results10, go_sem, sXx]) rfl ⟨_, _, rfl, ?_, by (repeat (first | (with_reducible exact Ext.refl _) | assumption | (with_reducible refine Ext.alloc ?_ _) | (with_reducible refine Ext.drew ?_) | (with_reducible refine Ext.drewL ?_) | refine Ext.trans ?_ (by assumption)))⟩
  refine own_last _ _ _ (flatR [(pctX p,0,1,1),(pctX p,0,1,1)]) _ ?_ ?_ ?_ ?_
  · simp
  · simp; omega
  · simp
  · rfl
set_option maxHeartbeats 1000000 in
theorem rget_bad4 (p : Int) (w : World) (hb : ¬ (pctE p = 0 ∧ p ≠ 0)) : Calls Try.prog 10 #[.string sXx, .int .i64 p] w fun r w' => RetC w (⟨#[]⟩, [], 0, 6) r w' := by
  simp only [sXx]
  by_cases he : pctE p = 0
  · have hp0 : p = 0 := by
      rcases Classical.em (p = 0) with h | h
      · exact h
      · exact absurd ⟨he, h⟩ hb
    subst hp0
    clear hb
    go_enter Try.func10, Try.ntmps10
    go_wp2_with (first | (go_at_call 17; refine (rpercent_any _ _).mono ?_; rintro e w1 ⟨rfl, rfl⟩))
    refine bodyPost_ret (v := .tuple #[.agg #[.string ⟨#[]⟩, .slice none 0 0, .int .i64 0], .int .i64 6]) (by simp [results, Try.results10, go_sem]) rfl ⟨none, 0, rfl, own_nil _ _ _ _, by (repeat (first | (with_reducible exact Ext.refl _) | assumption | (with_reducible refine Ext.alloc ?_ _) | (with_reducible refine Ext.drew ?_) | (with_reducible refine Ext.drewL ?_) | refine Ext.trans ?_ (by assumption)))⟩
  · have b1 : (pctE p != 0) = true := by simpa using he
    clear he hb
    go_enter Try.func10, Try.ntmps10
    go_wp2_with (first | (go_at_call 17; refine (rpercent_any _ _).mono ?_; rintro e w1 ⟨rfl, rfl⟩))
    refine bodyPost_ret (v := .tuple #[.agg #[.string ⟨#[]⟩, .slice none 0 0, .int .i64 0], .int .i64 6]) (by simp [results, Try.results10, go_sem]) rfl ⟨none, 0, rfl, own_nil _ _ _ _, by (repeat (first | (with_reducible exact Ext.refl _) | assumption | (with_reducible refine Ext.alloc ?_ _) | (with_reducible refine Ext.drew ?_) | (with_reducible refine Ext.drewL ?_) | refine Ext.trans ?_ (by assumption)))⟩
set_option maxHeartbeats 1000000 in
theorem rget_ok5 (p : Int) (w : World) (he : pctE p = 0) (hp0 : p ≠ 0) : Calls Try.prog 10 #[.string sXx100, .int .i64 p] w fun r w' => RetC w (sXx100, [(pctX p,0,1,1),(pctX p,0,1,2),(0,0,0,2)], 8, 0) r w' := by
  have hp1 : ¬ p < 1 := by
    unfold pctE at he
    split at he
    · omega
    · cases he
  have b2 : decide (p < 1) = false := by simpa using hp1
  clear hp1 hp0
  simp only [sXx100]
  go_enter Try.func10, Try.ntmps10
  go_wp2_with (first | (go_at_call 17; refine (rpercent_any _ _).mono ?_; rintro e w1 ⟨rfl, rfl⟩))
  refine bodyPost_ret (v := .tuple #[.agg #[.string sXx100, .slice (some ⟨w.heap.size + 1 + 1, 0, none⟩) 3 3, .int .i64 8], .int .i64 0]) (by simp [results, Try.results10, go_sem, sXx100]) rfl ⟨_, _, rfl, ?_, by (repeat (first | (with_reducible exact Ext.refl _) | assumption | (with_reducible refine Ext.alloc ?_ _) | (with_reducible refine Ext.drew ?_) | (with_reducible refine Ext.drewL ?_) | refine Ext.trans ?_ (by assumption)))⟩
  refine own_last _ _ _ (flatR [(pctX p,0,1,1),(pctX p,0,1,2),(0,0,0,2)]) _ ?_ ?_ ?_ ?_
  · simp
  · simp; omega
  · simp
  · rfl
set_option maxHeartbeats 1000000 in
theorem rget_bad5 (p : Int) (w : World) (hb : ¬ (pctE p = 0 ∧ p ≠ 0)) : Calls Try.prog 10 #[.string sXx100, .int .i64 p] w fun r w' => RetC w (⟨#[]⟩, [], 0, 6) r w' := by
  simp only [sXx100]
  by_cases he : pctE p = 0
  · have hp0 : p = 0 := by
      rcases Classical.em (p = 0) with h | h
      · exact h
      · exact absurd ⟨he, h⟩ hb
    subst hp0
    clear hb
    go_enter Try.func10, Try.ntmps10
    go_wp2_with (first | (go_at_call 17; refine (rpercent_any _ _).mono ?_; rintro e w1 ⟨rfl, rfl⟩))
    refine bodyPost_ret (v := .tuple #[.agg #[.string ⟨#[]⟩, .slice none 0 0, .int .i64 0], .int .i64 6]) (by simp [results, Try.results10, go_sem]) rfl ⟨none, 0, rfl, own_nil _ _ _ _, by (repeat (first | (with_reducible exact Ext.refl _) | assumption | (with_reducible refine Ext.alloc ?_ _) | (with_reducible refine Ext.drew ?_) | (with_reducible refine Ext.drewL ?_) | refine Ext.trans ?_ (by assumption)))⟩
  · have b1 : (pctE p != 0) = true := by simpa using he
    clear he hb
    go_enter Try.func10, Try.ntmps10
    go_wp2_with (first | (go_at_call 17; refine (rpercent_any _ _).mono ?_; rintro e w1 ⟨rfl, rfl⟩))
    refine bodyPost_ret (v := .tuple #[.agg #[.string ⟨#[]⟩, .slice none 0 0, .int .i64 0], .int .i64 6]) (by simp [results, Try.results10, go_sem]) rfl ⟨none, 0, rfl, own_nil _ _ _ _, by (repeat (first | (with_reducible exact Ext.refl _) | assumption | (with_reducible refine Ext.alloc ?_ _) | (with_reducible refine Ext.drew ?_) | (with_reducible refine Ext.drewL ?_) | refine Ext.trans ?_ (by assumption)))⟩
end Go.Proofs.Ytkioemeohofpcaa
