/- The walk of the law ArenaKeeps. Conditions: the ranges that each theorem states. -/
import Derived.Test.YtodoeckikkeacaaG
namespace Go.Proofs.Ytodoeckikkeacaa
open Go.RowKit Go.Draw

theorem copy_ok (rs : List Int) (p q k : Nat) (h1 : p + k ≤ rs.length) (h2 : q + k ≤ rs.length) : copyA rs p q k = (sets rs q ((rs.drop p).take k), 0) := by
  unfold copyA
  rw [if_neg (by omega), if_pos (by omega)]
  simp
theorem fill_ok (rs : List Int) (q k : Nat) (v : Int) (h2 : q + k ≤ rs.length) : fillA rs q k v = (sets rs q (List.replicate k v), 0) := by
  unfold fillA
  rw [if_neg (by omega), if_pos (by omega)]
  simp
theorem read_of {rs : List Int} {j : Nat} {x : Int} (h : rs[j]? = some x) : readA rs j = (x, 0) := by
  have := (List.getElem?_eq_some_iff.1 h).1
  unfold readA
  rw [if_pos (by omega)]
  simp [List.getD_eq_getElem?_getD, h]

set_option maxRecDepth 100000 in
set_option maxHeartbeats 4000000 in
theorem keeps_any (A : Option Addr) (n c : Nat) (rs : List Int) (from_ to_ n0 at_ v : Int) (w : World) (hr : Rd w A n 1 (words rs)) (hcp : n ≤ c) :
    Calls Try.prog 4 #[.slice A n c, .int .i64 from_, .int .i64 to_, .int .i64 n0, .int .i64 at_, .int .u64 v] w fun r w' => r = .returned (.bool true) ∧ Ext w w' := by
  by_cases hn : 0 < n ∧ n ≤ 600
  · obtain ⟨hn0, hn⟩ := hn
    have hl : rs.length = n := by have := hr.1; simpa [words] using this
    have hd0 : ((n : Int) == 0) = false := by simp; omega
    have hd0' : (n == 0) = false := by simp; omega
    have hd1 : decide ((600 : Int) < n) = false := by simp; omega
    have hd1' : decide (600 < n) = false := by simp; omega
    obtain ⟨i, hi, hin⟩ := mod_ex n0 n (by omega)
    obtain ⟨p, hp, hpn⟩ := mod_ex from_ (n - i) (by omega)
    obtain ⟨q, hq, hqn⟩ := mod_ex to_ (n - i) (by omega)
    obtain ⟨j, hj, hjn⟩ := mod_ex at_ n (by omega)
    have eL : ((n - i : Nat) : Int) = (n : Int) - (i + 1) + 1 := by omega
    rw [eL] at hp hq
    have hx := copy_ok rs p q (i + 1) (by omega) (by omega)
    have hy := fill_ok rs q (i + 1) v (by omega)
    have ek : ((i + 1 : Nat) : Int) = (i : Int) + 1 := by omega
    rw [ek] at hx hy
    have hxl : (sets rs q ((rs.drop p).take (i + 1))).length = n := by rw [sets_length, hl]
    have hyl : (sets rs q (List.replicate (i + 1) v)).length = n := by rw [sets_length, hl]
    have hxj := sets_at ((rs.drop p).take (i + 1)) rs q j (by simp; omega)
    have hyj := sets_at (List.replicate (i + 1) v) rs q j (by simp; omega)
    rw [show ((rs.drop p).take (i + 1)).length = i + 1 by simp; omega] at hxj
    rw [show (List.replicate (i + 1) v).length = i + 1 by simp] at hyj
    -- the value that is read
    obtain ⟨t, ht, htn, hxt, hyt⟩ : ∃ t : Nat, (t = if q ≤ j ∧ j < q + (i + 1) then p + (j - q) else j) ∧ t < n ∧ (sets rs q ((rs.drop p).take (i + 1)))[j]? = rs[t]? ∧ (sets rs q (List.replicate (i + 1) v))[j]? = if q ≤ j ∧ j < q + (i + 1) then some v else rs[t]? := by
      refine ⟨_, rfl, ?_, ?_, ?_⟩
      · split <;> omega
      · rw [hxj]
        split
        · rw [List.getElem?_take, if_pos (by omega), List.getElem?_drop]
        · rfl
      · rw [hyj]
        split
        · rw [List.getElem?_replicate, if_pos (by omega)]
        · rfl
    obtain ⟨x, hxx⟩ : ∃ x, rs[t]? = some x := ⟨_, List.getElem?_eq_getElem (by omega)⟩
    rw [hxx] at hxt hyt
    generalize sets rs q ((rs.drop p).take (i + 1)) = lx at *
    generalize sets rs q (List.replicate (i + 1) v) = ly at *
    have Hi := Lib.hid hi
    have Hp := Lib.hid hp
    have Hq := Lib.hid hq
    have Hj := Lib.hid hj
    have Hx := Lib.hid hx
    have Hy := Lib.hid hy
    have Ht := Lib.hid ht
    have Hxt := Lib.hid hxt
    have Hyt := Lib.hid hyt
    have hgi : (words rs)[t]? = some (.int .u64 x) := by simp [words, hxx]
    have Hg := Lib.hid hgi
    clear hi hp hq hj hx hy ht hxt hyt hgi hxj hyj hxx eL ek hl
    go_enter Try.func4, Try.ntmps4
    go_wp2_with fail
    go_at_call 14
    refine (clone_any A n c rs _ hr (by omega)).mono ?_
    rintro e w1 ⟨A1, c1, rfl, hA1, hE1⟩
    have hr1 := Rd.of_own hA1
    have hr0 := hr.ext hE1
    obtain ⟨g, rfl, _, hgl⟩ := own_form hA1 hn0
    obtain ⟨hcg, _⟩ := own_cells hA1
    have hct := hcg t _ Hg.out
    clear hcg hA1 hr
    go_wp2_with fail
    go_at_call 8
    refine (mod_to _ _ i _ (by omega) (by omega) Hi.out).mono ?_
    rintro e w2 ⟨rfl, rfl⟩
    go_wp2_with fail
    go_at_call 8
    refine (mod_to _ _ p _ (by omega) (by omega) Hp.out).mono ?_
    rintro e w2 ⟨rfl, rfl⟩
    go_wp2_with fail
    go_at_call 8
    refine (mod_to _ _ q _ (by omega) (by omega) Hq.out).mono ?_
    rintro e w2 ⟨rfl, rfl⟩
    go_wp2_with fail
    go_at_call 9
    refine (copy_is _ _ _ _ _ _ _ _ _ _ hr0 (by omega) hcp Hx.out).mono ?_
    rintro e w2 ⟨A2, c2, rfl, hA2, hE2⟩
    rw [hxl] at hA2 ⊢
    have hr2 := Rd.of_own hA2
    clear hA2
    go_wp2_with fail
    go_at_call 11
    refine (fill_is _ _ _ _ _ _ _ _ _ _ (hr0.ext hE2) (by omega) hcp Hy.out).mono ?_
    rintro e w3 ⟨A3, c3, rfl, hA3, hE3⟩
    rw [hyl] at hA3 ⊢
    have hr3 := Rd.of_own hA3
    have hE13 := hE2.trans hE3
    clear hA3
    go_wp2_with fail
    go_at_call 13
    refine (same_self _ _ _ _ _ _ rs _ (hr0.ext hE13) (hr1.ext hE13) (by omega) (by omega)).mono ?_
    rintro e w4 ⟨rfl, hE4⟩
    go_wp2_with fail
    go_at_call 8
    refine (mod_to _ _ j _ (by omega) (by omega) Hj.out).mono ?_
    rintro e w5 ⟨rfl, rfl⟩
    go_wp2_with fail
    go_at_call 15
    refine (read_is _ _ _ _ _ _ _ _ (hr2.ext (hE3.trans hE4)) (by omega) (read_of Hxt.out)).mono ?_
    rintro e w5 ⟨rfl, hE5⟩
    have hE15 := (hE13.trans hE4).trans hE5
    by_cases hin : q ≤ j ∧ j < q + (i + 1)
    · have hy2 : ly[j]? = some v := by rw [Hyt.out, if_pos hin]
      have ht : t = p + (j - q) := by rw [Ht.out, if_pos hin]
      have hti : (p : Int) + j - q = (t : Int) := by omega
      have t1 : decide ((q : Int) ≤ j) = true := by simp; omega
      have t1' : decide (q ≤ j) = true := by simp; omega
      have t2 : decide ((j : Int) < (q : Int) + ((i : Int) + 1)) = true := by simp; omega
      have Hy2 := Lib.hid hy2
      have hxx : (x == x) = true := by simp
      have hvv : (v == v) = true := by simp
      have htI : (t : Int) < n := by omega
      clear hy2 ht hin
      go_wp2_with fail
      go_at_call 15
      refine (read_is _ _ _ _ _ _ _ _ ((hr3.ext hE4).ext hE5) (by omega) (read_of Hy2.out)).mono ?_
      rintro e w6 ⟨rfl, hE6⟩
      have hct6 := cell_ext (hE15.trans hE6) hct
      have hg6 := cell_lt hct6
      go_wp2
      go_ret
      exact ⟨rfl, by (repeat (first | (with_reducible exact Ext.refl _) | assumption | (with_reducible refine Ext.alloc ?_ _) | (with_reducible refine Ext.drew ?_) | (with_reducible refine Ext.drewL ?_) | refine Ext.trans ?_ (by assumption)))⟩
    · have hy2 : ly[j]? = some x := by rw [Hyt.out, if_neg hin]
      obtain rfl : t = j := by rw [Ht.out, if_neg hin]
      have Hy2 := Lib.hid hy2
      have hxx : (x == x) = true := by simp
      have htI : (t : Int) < n := by omega
      clear hy2
      by_cases hq1 : q ≤ t
      · have t1 : decide ((q : Int) ≤ t) = true := by simp; omega
        have t1' : decide (q ≤ t) = true := by simp; omega
        have t2 : decide ((t : Int) < (q : Int) + ((i : Int) + 1)) = false := by simp; omega
        clear hin hq1
        go_wp2_with fail
        go_at_call 15
        refine (read_is _ _ _ _ _ _ _ _ ((hr3.ext hE4).ext hE5) (by omega) (read_of Hy2.out)).mono ?_
        rintro e w6 ⟨rfl, hE6⟩
        have hct6 := cell_ext (hE15.trans hE6) hct
        have hg6 := cell_lt hct6
        go_wp2
        go_ret
        exact ⟨rfl, by (repeat (first | (with_reducible exact Ext.refl _) | assumption | (with_reducible refine Ext.alloc ?_ _) | (with_reducible refine Ext.drew ?_) | (with_reducible refine Ext.drewL ?_) | refine Ext.trans ?_ (by assumption)))⟩
      · have t1 : decide ((q : Int) ≤ t) = false := by simp; omega
        have t1' : decide (q ≤ t) = false := by simp; omega
        clear hin hq1
        go_wp2_with fail
        go_at_call 15
        refine (read_is _ _ _ _ _ _ _ _ ((hr3.ext hE4).ext hE5) (by omega) (read_of Hy2.out)).mono ?_
        rintro e w6 ⟨rfl, hE6⟩
        have hct6 := cell_ext (hE15.trans hE6) hct
        have hg6 := cell_lt hct6
        go_wp2
        go_ret
        exact ⟨rfl, by (repeat (first | (with_reducible exact Ext.refl _) | assumption | (with_reducible refine Ext.alloc ?_ _) | (with_reducible refine Ext.drew ?_) | (with_reducible refine Ext.drewL ?_) | refine Ext.trans ?_ (by assumption)))⟩
  · by_cases h0 : n = 0
    · subst h0
      clear hr hn
      go_enter Try.func4, Try.ntmps4
      go_wp2_with (first | (go_at_call 7; refine (awake_any _).mono ?_; rintro e w1 ⟨rfl, hE7⟩))
      go_ret
      exact ⟨rfl, by (repeat (first | (with_reducible exact Ext.refl _) | assumption | (with_reducible refine Ext.alloc ?_ _) | (with_reducible refine Ext.drew ?_) | (with_reducible refine Ext.drewL ?_) | refine Ext.trans ?_ (by assumption)))⟩
    · have hd0 : ((n : Int) == 0) = false := by simp; omega
      have hd0' : (n == 0) = false := by simp; omega
      have hd1 : decide ((600 : Int) < n) = true := by simp; omega
      have hd1' : decide (600 < n) = true := by simp; omega
      clear hr hn
      go_enter Try.func4, Try.ntmps4
      go_wp2_with (first | (go_at_call 7; refine (awake_any _).mono ?_; rintro e w1 ⟨rfl, hE7⟩))
      go_ret
      exact ⟨rfl, by (repeat (first | (with_reducible exact Ext.refl _) | assumption | (with_reducible refine Ext.alloc ?_ _) | (with_reducible refine Ext.drew ?_) | (with_reducible refine Ext.drewL ?_) | refine Ext.trans ?_ (by assumption)))⟩
end Go.Proofs.Ytodoeckikkeacaa
