/- The walk of the presets' reference, whatever the name. Conditions: the ranges that each theorem states. -/
import Derived.Test.YtkioemeohofpcaaC
namespace Go.Proofs.Ytkioemeohofpcaa
open Go.RowKit Go.Draw

theorem ne_list {s k : ByteArray} {l : List UInt8} (hl : k.toList = l) (h : s ≠ k) : (s.toList == l) = false := by
  subst hl
  rw [← beq_toListBytes]; exact beq_ne h
set_option maxHeartbeats 1000000 in
theorem rget_none (s : ByteArray) (p : Int) (w : World) (h1 : s ≠ sSemi) (h2 : s ≠ sAppel) (h3 : s ≠ sFixed) (h4 : s ≠ sOlder) (h5 : s ≠ sXx) (h6 : s ≠ sXx100) : Calls Try.prog 10 #[.string s, .int .i64 p] w fun r w' => RetC w (⟨#[]⟩, [], 0, 7) r w' := by
  have g1 : (s.toList == [115, 101, 109, 105, 115, 112, 97, 99, 101]) = false := ne_list (by rw [ByteArray.toList_eq]; rfl) h1
  have g2 : (s.toList == [97, 112, 112, 101, 108]) = false := ne_list (by rw [ByteArray.toList_eq]; rfl) h2
  have g3 : (s.toList == [102, 105, 120, 101, 100]) = false := ne_list (by rw [ByteArray.toList_eq]; rfl) h3
  have g4 : (s.toList == [111, 108, 100, 101, 114, 45, 102, 105, 114, 115, 116]) = false := ne_list (by rw [ByteArray.toList_eq]; rfl) h4
  have g5 : (s.toList == [120, 120]) = false := ne_list (by rw [ByteArray.toList_eq]; rfl) h5
  have g6 : (s.toList == [120, 120, 49, 48, 48]) = false := ne_list (by rw [ByteArray.toList_eq]; rfl) h6
  clear h1 h2 h3 h4 h5 h6
  by_cases he : pctE p = 0
  · have b1 : (pctE p != 0) = false := by simpa using he
    clear he
    go_enter Try.func10, Try.ntmps10
    go_wp2_with (first | (go_at_call 17; refine (rpercent_any _ _).mono ?_; rintro e w1 ⟨rfl, rfl⟩))
    refine bodyPost_ret (v := .tuple #[.agg #[.string ⟨#[]⟩, .slice none 0 0, .int .i64 0], .int .i64 7]) (by simp [results, Try.results10, go_sem]) rfl ⟨none, 0, rfl, own_nil _ _ _ _, by (repeat (first | (with_reducible exact Ext.refl _) | assumption | (with_reducible refine Ext.alloc ?_ _) | (with_reducible refine Ext.drew ?_) | (with_reducible refine Ext.drewL ?_) | refine Ext.trans ?_ (by assumption)))⟩
  · have b1 : (pctE p != 0) = true := by simpa using he
    clear he
    go_enter Try.func10, Try.ntmps10
    go_wp2_with (first | (go_at_call 17; refine (rpercent_any _ _).mono ?_; rintro e w1 ⟨rfl, rfl⟩))
    refine bodyPost_ret (v := .tuple #[.agg #[.string ⟨#[]⟩, .slice none 0 0, .int .i64 0], .int .i64 7]) (by simp [results, Try.results10, go_sem]) rfl ⟨none, 0, rfl, own_nil _ _ _ _, by (repeat (first | (with_reducible exact Ext.refl _) | assumption | (with_reducible refine Ext.alloc ?_ _) | (with_reducible refine Ext.drew ?_) | (with_reducible refine Ext.drewL ?_) | refine Ext.trans ?_ (by assumption)))⟩
theorem rget_any (s : ByteArray) (p : Int) (w : World) : Calls Try.prog 10 #[.string s, .int .i64 p] w fun r w' => RetC w (getT s p) r w' := by
  by_cases hb : pctE p = 0 ∧ p ≠ 0
  · by_cases h1 : s = sSemi
    · subst h1
      rw [show getT sSemi p = (sSemi, [(0,0,0,0)], 1, 0) by
        unfold getT presT
        rw [if_pos rfl]
        simp only
        rw [if_pos hb]]
      exact rget_ok0 p w hb.1 hb.2
    by_cases h2 : s = sAppel
    · subst h2
      rw [show getT sAppel p = (sAppel, [(0,0,0,1),(0,0,0,1)], 8, 0) by
        unfold getT presT
        rw [if_neg (by decide), if_pos rfl]
        simp only
        rw [if_pos hb]]
      exact rget_ok1 p w hb.1 hb.2
    by_cases h3 : s = sFixed
    · subst h3
      rw [show getT sFixed p = (sFixed, [(pctX p,1,0,1),(0,0,0,1)], 8, 0) by
        unfold getT presT
        rw [if_neg (by decide), if_neg (by decide), if_pos rfl]
        simp only
        rw [if_pos hb]]
      exact rget_ok2 p w hb.1 hb.2
    by_cases h4 : s = sOlder
    · subst h4
      rw [show getT sOlder p = (sOlder, [(pctX p,0,1,0)], 0, 0) by
        unfold getT presT
        rw [if_neg (by decide), if_neg (by decide), if_neg (by decide), if_pos rfl]
        simp only
        rw [if_pos hb]]
      exact rget_ok3 p w hb.1 hb.2
    by_cases h5 : s = sXx
    · subst h5
      rw [show getT sXx p = (sXx, [(pctX p,0,1,1),(pctX p,0,1,1)], 0, 0) by
        unfold getT presT
        rw [if_neg (by decide), if_neg (by decide), if_neg (by decide), if_neg (by decide), if_pos rfl]
        simp only
        rw [if_pos hb]]
      exact rget_ok4 p w hb.1 hb.2
    by_cases h6 : s = sXx100
    · subst h6
      rw [show getT sXx100 p = (sXx100, [(pctX p,0,1,1),(pctX p,0,1,2),(0,0,0,2)], 8, 0) by
        unfold getT presT
        rw [if_neg (by decide), if_neg (by decide), if_neg (by decide), if_neg (by decide), if_neg (by decide), if_pos rfl]
        simp only
        rw [if_pos hb]]
      exact rget_ok5 p w hb.1 hb.2
    rw [show getT s p = (⟨#[]⟩, [], 0, 7) by
      unfold getT presT
      rw [if_neg h1, if_neg h2, if_neg h3, if_neg h4, if_neg h5, if_neg h6]]
    exact rget_none s p w h1 h2 h3 h4 h5 h6
  · by_cases h1 : s = sSemi
    · subst h1
      rw [show getT sSemi p = (⟨#[]⟩, [], 0, 6) by
        unfold getT presT
        rw [if_pos rfl]
        simp only
        rw [if_neg hb]]
      exact rget_bad0 p w hb
    by_cases h2 : s = sAppel
    · subst h2
      rw [show getT sAppel p = (⟨#[]⟩, [], 0, 6) by
        unfold getT presT
        rw [if_neg (by decide), if_pos rfl]
        simp only
        rw [if_neg hb]]
      exact rget_bad1 p w hb
    by_cases h3 : s = sFixed
    · subst h3
      rw [show getT sFixed p = (⟨#[]⟩, [], 0, 6) by
        unfold getT presT
        rw [if_neg (by decide), if_neg (by decide), if_pos rfl]
        simp only
        rw [if_neg hb]]
      exact rget_bad2 p w hb
    by_cases h4 : s = sOlder
    · subst h4
      rw [show getT sOlder p = (⟨#[]⟩, [], 0, 6) by
        unfold getT presT
        rw [if_neg (by decide), if_neg (by decide), if_neg (by decide), if_pos rfl]
        simp only
        rw [if_neg hb]]
      exact rget_bad3 p w hb
    by_cases h5 : s = sXx
    · subst h5
      rw [show getT sXx p = (⟨#[]⟩, [], 0, 6) by
        unfold getT presT
        rw [if_neg (by decide), if_neg (by decide), if_neg (by decide), if_neg (by decide), if_pos rfl]
        simp only
        rw [if_neg hb]]
      exact rget_bad4 p w hb
    by_cases h6 : s = sXx100
    · subst h6
      rw [show getT sXx100 p = (⟨#[]⟩, [], 0, 6) by
        unfold getT presT
        rw [if_neg (by decide), if_neg (by decide), if_neg (by decide), if_neg (by decide), if_neg (by decide), if_pos rfl]
        simp only
        rw [if_neg hb]]
      exact rget_bad5 p w hb
    rw [show getT s p = (⟨#[]⟩, [], 0, 7) by
      unfold getT presT
      rw [if_neg h1, if_neg h2, if_neg h3, if_neg h4, if_neg h5, if_neg h6]]
    exact rget_none s p w h1 h2 h3 h4 h5 h6
end Go.Proofs.Ytkioemeohofpcaa
