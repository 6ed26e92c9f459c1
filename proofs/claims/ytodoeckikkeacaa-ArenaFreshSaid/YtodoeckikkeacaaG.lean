/- The walk of the law ArenaFresh. Conditions: the ranges that each theorem states. -/
import Derived.Test.YtodoeckikkeacaaF
namespace Go.Proofs.Ytodoeckikkeacaa
open Go.RowKit Go.Draw

theorem mod_to (v n : Int) (i : Nat) (w : World) (h1 : 1 ≤ n) (h2 : n ≤ 9223372036854775807) (h : v % n = (i : Int)) :
    Calls Try.prog 8 #[.int .i64 v, .int .i64 n] w fun e w' => e = .returned (.int .i64 (i : Int)) ∧ w = w' := by
  rw [← h]; exact mod_any v n w h1 h2
theorem mod_ex (v : Int) (L : Nat) (h : L ≠ 0) : ∃ i : Nat, v % (L : Int) = (i : Int) ∧ i < L := by
  have h1 := Int.emod_nonneg v (show (L : Int) ≠ 0 by omega)
  have h2 := Int.emod_lt_of_pos v (show (0 : Int) < L by omega)
  exact ⟨(v % (L : Int)).toNat, by omega, by omega⟩
theorem fill_is (A : Option Addr) (n c : Nat) (rs : List Int) (a k v : Int) (l : List Int) (er : Int) (w : World) (hr : Rd w A n 1 (words rs)) (hn : n ≤ 1000000) (hcp : n ≤ c) (h : fillA rs a k v = (l, er)) :
    Calls Try.prog 11 #[.slice A n c, .int .i64 a, .int .i64 k, .int .u64 v] w fun r w' => RetW w l er r w' := by
  have := fill_any A n c rs a k v w hr hn hcp; rwa [h] at this
theorem fresh_fill (i : Nat) (v : Int) : fillA (List.replicate (2 * (1 + i)) 0) 0 (1 + (i : Int)) v = (List.replicate (1 + i) v ++ List.replicate (1 + i) 0, 0) := by
  unfold fillA
  rw [if_neg (by omega), if_pos (by simp; omega)]
  congr 1
  apply List.ext_getElem?
  intro j
  rw [sets_at _ _ _ _ (by simp; omega)]
  have e : (1 + (i : Int)).toNat = 1 + i := by omega
  simp only [e, Int.toNat_zero, List.getElem?_append, List.getElem?_replicate, List.length_replicate, Nat.zero_add, Nat.zero_le, true_and, Nat.sub_zero]
  by_cases h1 : j < 1 + i
  · simp [h1]
  · by_cases h2 : j < 2 * (1 + i)
    · rw [if_neg h1, if_pos h2, if_neg h1, if_pos (by omega)]
    · rw [if_neg h1, if_neg h2, if_neg h1, if_neg (by omega)]
theorem fresh_copy (i : Nat) (v : Int) : copyA (List.replicate (1 + i) v ++ List.replicate (1 + i) 0) 0 (1 + (i : Int)) (1 + (i : Int)) = (List.replicate (2 * (1 + i)) v, 0) := by
  unfold copyA
  rw [if_neg (by omega), if_pos (by simp; omega)]
  congr 1
  have e : (1 + (i : Int)).toNat = 1 + i := by omega
  simp only [e, Int.toNat_zero, List.drop_zero]
  have e2 : (List.replicate (1 + i) v ++ List.replicate (1 + i) 0).take (1 + i) = List.replicate (1 + i) v := by
    rw [List.take_append_of_le_length (by simp)]; simp
  rw [e2]
  apply List.ext_getElem?
  intro j
  rw [sets_at _ _ _ _ (by simp)]
  simp only [List.getElem?_append, List.getElem?_replicate, List.length_replicate]
  by_cases h1 : j < 1 + i
  · rw [if_neg (by omega), if_pos h1, if_pos h1, if_pos (by omega)]
  · by_cases h2 : j < 2 * (1 + i)
    · rw [if_pos (by omega), if_pos (by omega), if_pos h2]
    · rw [if_neg (by omega), if_neg h1, if_neg (by omega), if_neg h2]
theorem read_rep (k j : Nat) (v : Int) (h : j < k) : readA (List.replicate k v) j = (v, 0) := by
  unfold readA
  rw [if_pos (by simp; omega)]
  simp [List.getD_eq_getElem?_getD, List.getElem?_replicate, h]

set_option maxRecDepth 100000 in
set_option maxHeartbeats 4000000 in
theorem fresh_any (x0 v at_ : Int) (w : World) :
    Calls Try.prog 6 #[.int .i64 x0, .int .u64 v, .int .i64 at_] w fun r w' => r = .returned (.bool true) ∧ Ext w w' := by
  obtain ⟨i, hi, hi3⟩ := mod_ex x0 300 (by omega)
  obtain ⟨j, hj, hj3⟩ := mod_ex at_ (2 * (1 + i)) (by omega)
  have hk : ((2 * (1 + i) : Nat) : Int) = 2 * (1 + (i : Int)) := by omega
  rw [hk] at hj
  have Hi := Lib.hid (show x0 % 300 = (i : Int) from hi)
  have Hj := Lib.hid hj
  have hm : makeA (2 * (1 + (i : Int))) = (List.replicate (2 * (1 + i)) 0, 0) := by
    unfold makeA; rw [if_pos (by omega)]; congr 2
  have Hm := Lib.hid hm
  have hq : (2 * (1 + (i : Int))).tdiv 2 = 1 + (i : Int) := by rw [Int.mul_comm]; exact Int.mul_tdiv_cancel _ (by omega)
  clear hi hj hm hk
  go_enter Try.func6, Try.ntmps6
  go_wp2_with fail
  go_at_call 8
  refine (mod_to _ _ i _ (by omega) (by omega) Hi.out).mono ?_
  rintro e w1 ⟨rfl, rfl⟩
  go_wp2_with fail
  go_at_call 16
  refine (make_is _ _ _ _ Hm.out).mono ?_
  rintro e w1 ⟨A1, c1, rfl, hA1, hE1⟩
  have hl1 : (List.replicate (2 * (1 + i)) (0 : Int)).length = 2 * (1 + i) := by simp
  rw [hl1] at hA1
  have hc1 := own_cap hA1
  have hr1 := Rd.of_own hA1
  rw [hl1]
  clear hA1
  go_wp2_with fail
  go_at_call 8
  refine (mod_to _ _ j _ (by omega) (by omega) Hj.out).mono ?_
  rintro e w1 ⟨rfl, rfl⟩
  go_wp2_with fail
  go_at_call 15
  refine (read_is _ _ _ _ _ _ _ _ hr1 (by omega) (read_rep _ _ _ hj3)).mono ?_
  rintro e w2 ⟨rfl, hE2⟩
  go_wp2_with fail
  go_at_call 11
  refine (fill_is _ _ _ _ _ _ _ _ _ _ (hr1.ext hE2) (by omega) hc1 (fresh_fill i v)).mono ?_
  rintro e w3 ⟨A3, c3, rfl, hA3, hE3⟩
  have hl3 : (List.replicate (1 + i) v ++ List.replicate (1 + i) 0).length = 2 * (1 + i) := by simp; omega
  rw [hl3] at hA3
  have hc3 := own_cap hA3
  have hr3 := Rd.of_own hA3
  rw [hl3]
  clear hA3
  go_wp2_with fail
  go_at_call 9
  refine (copy_is _ _ _ _ _ _ _ _ _ _ hr3 (by omega) hc3 (fresh_copy i v)).mono ?_
  rintro e w4 ⟨A4, c4, rfl, hA4, hE4⟩
  have hl4 : (List.replicate (2 * (1 + i)) v).length = 2 * (1 + i) := by simp
  rw [hl4] at hA4
  have hr4 := Rd.of_own hA4
  rw [hl4]
  clear hA4
  go_wp2_with fail
  go_at_call 8
  refine (mod_to _ _ j _ (by omega) (by omega) Hj.out).mono ?_
  rintro e w1 ⟨rfl, rfl⟩
  go_wp2_with fail
  go_at_call 15
  refine (read_is _ _ _ _ _ _ _ _ hr4 (by omega) (read_rep _ _ _ hj3)).mono ?_
  rintro e w5 ⟨rfl, hE5⟩
  have hvv : (v == v) = true := by simp
  have hkk : (((2 * (1 + i) : Nat) : Int) == 2 * (1 + (i : Int))) = true := by simp
  go_wp2_with (first | (go_at_call 7; refine (awake_any _).mono ?_; rintro e w1 ⟨rfl, hE7⟩))
  go_ret
  exact ⟨rfl, by (repeat (first | (with_reducible exact Ext.refl _) | assumption | (with_reducible refine Ext.alloc ?_ _) | (with_reducible refine Ext.drew ?_) | (with_reducible refine Ext.drewL ?_) | refine Ext.trans ?_ (by assumption)))⟩
end Go.Proofs.Ytodoeckikkeacaa
