/- The walks of the three clones. Conditions: the ranges that each theorem states. -/
import Derived.Test.YtamghjilcfeheaaD
namespace Go.Proofs.Ytamghjilcfeheaa
open Go.RowKit Go.Draw

theorem clone37_any (A : Option Addr) (n c : Nat) (us : List Bool) (w : World) (h : Rd w A n 1 (vb us)) (hn : n ≤ 3000) :
    Calls Try.prog 37 #[.slice A n c] w fun r w' => ∃ A' c', r = .returned (.slice A' n c') ∧ w'.ownsRow w.heap.size 4 1 (.slice A' n c') n (vb us) ∧ Ext w w' := by
  cases A with
  | none =>
    have hn0 : n = 0 := by
      rcases Nat.eq_zero_or_pos n with h0 | h0
      · exact h0
      · obtain ⟨b, o, hA, _⟩ := h.2 h0
        cases hA
    subst hn0
    have he : ∀ W : World, (binOp .eql 24 (.slice none 0 c) (.slice none 0 0)).run Try.prog W = .ok (.bool true) W := fun _ => rfl
    have hus : vb us = [] := List.eq_nil_of_length_eq_zero (by rw [h.1])
    go_enter Try.func37, Try.ntmps37
    go_wp2
    go_ret
    exact ⟨none, 0, rfl, by rw [hus]; exact own_nil _ _ _ _, Ext.refl _⟩
  | some ad =>
    have he : ∀ W : World, (binOp .eql 24 (.slice (some ad) n c) (.slice none 0 0)).run Try.prog W = .ok (.bool false) W := fun _ => rfl
    go_enter Try.func37, Try.ntmps37
    go_wp2_with (first | (at_builtin; refine wpList_append rfl Try.el24 _ _ rfl w.heap.size _ 0 [] rfl (own_new (cs := []) rfl (Nat.le_refl _) (by omega) rfl) _ n c (vb us) rfl (h.ext (by (repeat (first | (with_reducible exact Ext.refl _) | assumption | (with_reducible refine Ext.alloc ?_ _) | (with_reducible refine Ext.drew ?_) | (with_reducible refine Ext.drewL ?_) | refine Ext.trans ?_ (by assumption))))) (one_vb us) (by omega) (by omega) (by simp) ?_; intro A2 c2 w2 hown2 hg2 hat2))
    go_ret
    simp only [Nat.zero_add, List.nil_append] at hown2 ⊢
    exact ⟨_, _, rfl, hown2, ext_grown (Ext.alloc (Ext.refl w) _) hg2 (own_new (base := w.heap.size) (cs := []) (n := 0) (size := 1) (e := 4) rfl (Nat.le_refl _) (by omega) rfl) (Nat.le_refl _)⟩
theorem clone38_any (A : Option Addr) (n c : Nat) (us : List Int) (w : World) (h : Rd w A n 1 (ints us)) (hn : n ≤ 3000) :
    Calls Try.prog 38 #[.slice A n c] w fun r w' => ∃ A' c', r = .returned (.slice A' n c') ∧ w'.ownsRow w.heap.size 3 1 (.slice A' n c') n (ints us) ∧ Ext w w' := by
  cases A with
  | none =>
    have hn0 : n = 0 := by
      rcases Nat.eq_zero_or_pos n with h0 | h0
      · exact h0
      · obtain ⟨b, o, hA, _⟩ := h.2 h0
        cases hA
    subst hn0
    have he : ∀ W : World, (binOp .eql 22 (.slice none 0 c) (.slice none 0 0)).run Try.prog W = .ok (.bool true) W := fun _ => rfl
    have hus : ints us = [] := List.eq_nil_of_length_eq_zero (by rw [h.1])
    go_enter Try.func38, Try.ntmps38
    go_wp2
    go_ret
    exact ⟨none, 0, rfl, by rw [hus]; exact own_nil _ _ _ _, Ext.refl _⟩
  | some ad =>
    have he : ∀ W : World, (binOp .eql 22 (.slice (some ad) n c) (.slice none 0 0)).run Try.prog W = .ok (.bool false) W := fun _ => rfl
    go_enter Try.func38, Try.ntmps38
    go_wp2_with (first | (at_builtin; refine wpList_append rfl Try.el22 _ _ rfl w.heap.size _ 0 [] rfl (own_new (cs := []) rfl (Nat.le_refl _) (by omega) rfl) _ n c (ints us) rfl (h.ext (by (repeat (first | (with_reducible exact Ext.refl _) | assumption | (with_reducible refine Ext.alloc ?_ _) | (with_reducible refine Ext.drew ?_) | (with_reducible refine Ext.drewL ?_) | refine Ext.trans ?_ (by assumption))))) (one_ints us) (by omega) (by omega) (by simp) ?_; intro A2 c2 w2 hown2 hg2 hat2))
    go_ret
    simp only [Nat.zero_add, List.nil_append] at hown2 ⊢
    exact ⟨_, _, rfl, hown2, ext_grown (Ext.alloc (Ext.refl w) _) hg2 (own_new (base := w.heap.size) (cs := []) (n := 0) (size := 1) (e := 3) rfl (Nat.le_refl _) (by omega) rfl) (Nat.le_refl _)⟩
theorem clone39_any (A : Option Addr) (n c : Nat) (us : List Int) (w : World) (h : Rd w A n 1 (words us)) (hn : n ≤ 3000) :
    Calls Try.prog 39 #[.slice A n c] w fun r w' => ∃ A' c', r = .returned (.slice A' n c') ∧ w'.ownsRow w.heap.size 31 1 (.slice A' n c') n (words us) ∧ Ext w w' := by
  cases A with
  | none =>
    have hn0 : n = 0 := by
      rcases Nat.eq_zero_or_pos n with h0 | h0
      · exact h0
      · obtain ⟨b, o, hA, _⟩ := h.2 h0
        cases hA
    subst hn0
    have he : ∀ W : World, (binOp .eql 47 (.slice none 0 c) (.slice none 0 0)).run Try.prog W = .ok (.bool true) W := fun _ => rfl
    have hus : words us = [] := List.eq_nil_of_length_eq_zero (by rw [h.1])
    go_enter Try.func39, Try.ntmps39
    go_wp2
    go_ret
    exact ⟨none, 0, rfl, by rw [hus]; exact own_nil _ _ _ _, Ext.refl _⟩
  | some ad =>
    have he : ∀ W : World, (binOp .eql 47 (.slice (some ad) n c) (.slice none 0 0)).run Try.prog W = .ok (.bool false) W := fun _ => rfl
    go_enter Try.func39, Try.ntmps39
    go_wp2_with (first | (at_builtin; refine wpList_append rfl Try.el47 _ _ rfl w.heap.size _ 0 [] rfl (own_new (cs := []) rfl (Nat.le_refl _) (by omega) rfl) _ n c (words us) rfl (h.ext (by (repeat (first | (with_reducible exact Ext.refl _) | assumption | (with_reducible refine Ext.alloc ?_ _) | (with_reducible refine Ext.drew ?_) | (with_reducible refine Ext.drewL ?_) | refine Ext.trans ?_ (by assumption))))) (one_words us) (by omega) (by omega) (by simp) ?_; intro A2 c2 w2 hown2 hg2 hat2))
    go_ret
    simp only [Nat.zero_add, List.nil_append] at hown2 ⊢
    exact ⟨_, _, rfl, hown2, ext_grown (Ext.alloc (Ext.refl w) _) hg2 (own_new (base := w.heap.size) (cs := []) (n := 0) (size := 1) (e := 31) rfl (Nat.le_refl _) (by omega) rfl) (Nat.le_refl _)⟩
end Go.Proofs.Ytamghjilcfeheaa
