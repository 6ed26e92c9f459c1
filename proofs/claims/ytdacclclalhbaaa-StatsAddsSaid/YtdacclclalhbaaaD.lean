/- The walks of Ratio, Cost, Survival and Order. Conditions: the ranges that each theorem states. -/
import Derived.Test.YtdacclclalhbaaaC
namespace Go.Proofs.Ytdacclclalhbaaa
open Go.RowKit Go.Draw

theorem run_quo_some (w : World) (a b : Int) (r : Nat) (h : Ieee.double.div (FloatKind.f64.nearest a) (FloatKind.f64.nearest b) = some r) :
    (binOp .quo 33 (.float .f64 (floatOfInt .f64 a)) (.float .f64 (floatOfInt .f64 b))).run Try.prog w = .ok (.float .f64 r) w :=
  run_float_arith w .quo 33 .f64 _ _ r h
theorem run_quo_none (w : World) (a b : Int) (h : Ieee.double.div (FloatKind.f64.nearest a) (FloatKind.f64.nearest b) = none) :
    ∃ r, NanW r ∧ (binOp .quo 33 (.float .f64 (floatOfInt .f64 a)) (.float .f64 (floatOfInt .f64 b))).run Try.prog w = .ok (.float .f64 r) w.drew := by
  have h' : Ieee.Format.div FloatKind.f64.format (floatOfInt .f64 a) (floatOfInt .f64 b) = none := h
  refine ⟨_, nan_cut (w.tape w.drawn (.nanBits .f64 (floatOfInt .f64 a) (floatOfInt .f64 b))), ?_⟩
  have e : binOp .quo 33 (.float .f64 (floatOfInt .f64 a)) (.float .f64 (floatOfInt .f64 b)) = Op.floatArith .quo .f64 (floatOfInt .f64 a) (floatOfInt .f64 b) := rfl
  rw [e]
  generalize floatOfInt .f64 a = x at *
  generalize floatOfInt .f64 b = y at *
  unfold Op.floatArith
  simp only [h']
  rfl

set_option maxHeartbeats 400000 in
theorem ratio_any (a b : Int) (w : World) (ha : Cnt a) (hb : Cnt b) :
    Calls Try.prog 26 #[.int .i64 a, .int .i64 b] w fun e w' => ∃ r, e = .returned (.float .f64 r) ∧ Is (quoW a.toNat b.toNat) r ∧ Ext w w' := by
  obtain ⟨a0, a1⟩ := ha
  obtain ⟨b0, b1⟩ := hb
  obtain ⟨m, rfl⟩ : ∃ m : Nat, a = (m : Int) := ⟨a.toNat, by omega⟩
  obtain ⟨n, rfl⟩ : ∃ n : Nat, b = (n : Int) := ⟨b.toNat, by omega⟩
  have d1 : decide ((m : Int) < 0) = false := by simp
  have d2 : decide ((n : Int) < 0) = false := by simp
  have d3 : decide ((1099511627776 : Int) < m) = false := by simp; omega
  have d3' : decide (1099511627776 < m) = false := by simp; omega
  have d4 : decide ((1099511627776 : Int) < n) = false := by simp; omega
  have d4' : decide (1099511627776 < n) = false := by simp; omega
  simp only [Int.toNat_natCast]
  rcases quo_cases m n (by omega) (by omega) with ⟨h, hk⟩ | ⟨r, h, hk, hr⟩
  · obtain ⟨r, hr, hrun⟩ := run_quo_none w m n h
    have Hk := Lib.hid hk
    clear h hk
    go_enter Try.func26, Try.ntmps26
    go_wp2
    go_ret
    exact ⟨r, rfl, .inr ⟨Hk.out, hr⟩, by (repeat (first | (with_reducible exact Ext.refl _) | assumption | (with_reducible refine Ext.alloc ?_ _) | (with_reducible refine Ext.drew ?_) | (with_reducible refine Ext.drewL ?_) | refine Ext.trans ?_ (by assumption)))⟩
  · have hrun := run_quo_some w m n r h
    have Hk := Lib.hid hk
    clear h hk
    go_enter Try.func26, Try.ntmps26
    go_wp2
    go_ret
    exact ⟨r, rfl, .inl ⟨by rw [Hk.out]; exact hr, Hk.out.symm⟩, by (repeat (first | (with_reducible exact Ext.refl _) | assumption | (with_reducible refine Ext.alloc ?_ _) | (with_reducible refine Ext.drew ?_) | (with_reducible refine Ext.drewL ?_) | refine Ext.trans ?_ (by assumption)))⟩
set_option maxHeartbeats 400000 in
theorem rratio_any (a b : Int) (w : World) (ha : Cnt a) (hb : Cnt b) :
    Calls Try.prog 27 #[.int .i64 a, .int .i64 b] w fun e w' => ∃ r, e = .returned (.float .f64 r) ∧ Is (quoW a.toNat b.toNat) r ∧ Ext w w' := by
  obtain ⟨a0, a1⟩ := ha
  obtain ⟨b0, b1⟩ := hb
  obtain ⟨m, rfl⟩ : ∃ m : Nat, a = (m : Int) := ⟨a.toNat, by omega⟩
  obtain ⟨n, rfl⟩ : ∃ n : Nat, b = (n : Int) := ⟨b.toNat, by omega⟩
  have d1 : decide ((m : Int) < 0) = false := by simp
  have d2 : decide ((n : Int) < 0) = false := by simp
  have d3 : decide ((1099511627776 : Int) < m) = false := by simp; omega
  have d3' : decide (1099511627776 < m) = false := by simp; omega
  have d4 : decide ((1099511627776 : Int) < n) = false := by simp; omega
  have d4' : decide (1099511627776 < n) = false := by simp; omega
  simp only [Int.toNat_natCast]
  rcases quo_cases m n (by omega) (by omega) with ⟨h, hk⟩ | ⟨r, h, hk, hr⟩
  · obtain ⟨r, hr, hrun⟩ := run_quo_none w m n h
    have Hk := Lib.hid hk
    clear h hk
    go_enter Try.func27, Try.ntmps27
    go_wp2
    go_ret
    exact ⟨r, rfl, .inr ⟨Hk.out, hr⟩, by (repeat (first | (with_reducible exact Ext.refl _) | assumption | (with_reducible refine Ext.alloc ?_ _) | (with_reducible refine Ext.drew ?_) | (with_reducible refine Ext.drewL ?_) | refine Ext.trans ?_ (by assumption)))⟩
  · have hrun := run_quo_some w m n r h
    have Hk := Lib.hid hk
    clear h hk
    go_enter Try.func27, Try.ntmps27
    go_wp2
    go_ret
    exact ⟨r, rfl, .inl ⟨by rw [Hk.out]; exact hr, Hk.out.symm⟩, by (repeat (first | (with_reducible exact Ext.refl _) | assumption | (with_reducible refine Ext.alloc ?_ _) | (with_reducible refine Ext.drew ?_) | (with_reducible refine Ext.drewL ?_) | refine Ext.trans ?_ (by assumption)))⟩

def costK (a : Nat → Int) : Nat := quoW (a 8).toNat (a 0).toNat
def survK (a : Nat → Int) : Nat := quoW (a 6).toNat (a 5).toNat
set_option maxHeartbeats 400000 in
theorem cost_any (a : Nat → Int) (w : World) (ha : Cnts a) :
    Calls Try.prog 13 #[.agg (stV a)] w fun e w' => ∃ r, e = .returned (.float .f64 r) ∧ Is (costK a) r ∧ Ext w w' := by
  simp only [stV]
  go_enter Try.func13, Try.ntmps13
  go_wp2_with (first | (go_at_call 26; refine (ratio_any _ _ _ (ha 8 (by omega)) (ha 0 (by omega))).mono ?_; rintro e w1 ⟨r, rfl, hr, hE⟩))
  go_ret
  exact ⟨r, rfl, hr, by (repeat (first | (with_reducible exact Ext.refl _) | assumption | (with_reducible refine Ext.alloc ?_ _) | (with_reducible refine Ext.drew ?_) | (with_reducible refine Ext.drewL ?_) | refine Ext.trans ?_ (by assumption)))⟩
set_option maxHeartbeats 400000 in
theorem rcost_any (a : Nat → Int) (w : World) (ha : Cnts a) :
    Calls Try.prog 19 #[.agg (stV a)] w fun e w' => ∃ r, e = .returned (.float .f64 r) ∧ Is (costK a) r ∧ Ext w w' := by
  simp only [stV]
  go_enter Try.func19, Try.ntmps19
  go_wp2_with (first | (go_at_call 27; refine (rratio_any _ _ _ (ha 8 (by omega)) (ha 0 (by omega))).mono ?_; rintro e w1 ⟨r, rfl, hr, hE⟩))
  go_ret
  exact ⟨r, rfl, hr, by (repeat (first | (with_reducible exact Ext.refl _) | assumption | (with_reducible refine Ext.alloc ?_ _) | (with_reducible refine Ext.drew ?_) | (with_reducible refine Ext.drewL ?_) | refine Ext.trans ?_ (by assumption)))⟩
set_option maxHeartbeats 400000 in
theorem surv_any (a : Nat → Int) (w : World) (ha : Cnts a) :
    Calls Try.prog 16 #[.agg (stV a)] w fun e w' => ∃ r, e = .returned (.float .f64 r) ∧ Is (survK a) r ∧ Ext w w' := by
  simp only [stV]
  go_enter Try.func16, Try.ntmps16
  go_wp2_with (first | (go_at_call 26; refine (ratio_any _ _ _ (ha 6 (by omega)) (ha 5 (by omega))).mono ?_; rintro e w1 ⟨r, rfl, hr, hE⟩))
  go_ret
  exact ⟨r, rfl, hr, by (repeat (first | (with_reducible exact Ext.refl _) | assumption | (with_reducible refine Ext.alloc ?_ _) | (with_reducible refine Ext.drew ?_) | (with_reducible refine Ext.drewL ?_) | refine Ext.trans ?_ (by assumption)))⟩
set_option maxHeartbeats 400000 in
theorem rsurv_any (a : Nat → Int) (w : World) (ha : Cnts a) :
    Calls Try.prog 18 #[.agg (stV a)] w fun e w' => ∃ r, e = .returned (.float .f64 r) ∧ Is (survK a) r ∧ Ext w w' := by
  simp only [stV]
  go_enter Try.func18, Try.ntmps18
  go_wp2_with (first | (go_at_call 27; refine (rratio_any _ _ _ (ha 6 (by omega)) (ha 5 (by omega))).mono ?_; rintro e w1 ⟨r, rfl, hr, hE⟩))
  go_ret
  exact ⟨r, rfl, hr, by (repeat (first | (with_reducible exact Ext.refl _) | assumption | (with_reducible refine Ext.alloc ?_ _) | (with_reducible refine Ext.drew ?_) | (with_reducible refine Ext.drewL ?_) | refine Ext.trans ?_ (by assumption)))⟩

theorem bits_run (x : Nat) (w : World) : (callFunc 29 #[.float .f64 x]).run Try.prog w = .ok (.value (.int .u64 x)) w := by
  rw [run_callFunc_extern (e := Extern.MathFloatBits.float64bits) (fn := Try.f29) Try.func29 (by kernel_rfl) (by kernel_rfl) (by kernel_rfl) (by kernel_rfl)]
  rfl
theorem sign_any (x : Nat) (w : World) (hx : x ≤ infW) :
    Calls Try.prog 28 #[.float .f64 x] w fun e w' => e = .returned (.int .i64 0) ∧ w = w' := by
  have hb := bits_run x w
  have hi : infW = 9218868437227405312 := rfl
  have e0 : (x : Int) / 9223372036854775808 = 0 := by omega
  go_enter Try.func28, Try.ntmps28
  go_wp2
  go_ret
  exact ⟨ret_int (by simp [e0, wrap64]), rfl⟩
theorem signbit_any (x : Nat) (w : World) (hx : x ≤ infW) :
    Calls Try.prog 25 #[.float .f64 x] w fun e w' => e = .returned (.bool false) ∧ w = w' := by
  have hb := bits_run x w
  have hi : infW = 9218868437227405312 := rfl
  have e1 : wrap64 (x : Int) = x := by unfold wrap64; omega
  go_enter Try.func25, Try.ntmps25
  go_wp2
  go_ret
  exact ⟨ret_bool (by simp), rfl⟩

theorem cmp_lt {x y : Nat} (hx : x ≤ infW) (hy : y ≤ infW) (h : x < y) : FloatKind.f64.format.order x y = some .lt := by
  have := order_words hx hy
  rwa [show compare x y = .lt by simp only [compare, compareOfLessAndEq, if_pos h]] at this
theorem cmp_eq {x : Nat} (hx : x ≤ infW) : FloatKind.f64.format.order x x = some .eq := by
  have := order_words hx hx
  rwa [show compare x x = .eq by simp [compare, compareOfLessAndEq]] at this
theorem cmp_gt {x y : Nat} (hx : x ≤ infW) (hy : y ≤ infW) (h : y < x) : FloatKind.f64.format.order x y = some .gt := by
  have := order_words hx hy
  rwa [show compare x y = .gt by simp only [compare, compareOfLessAndEq]; rw [if_neg (by omega), if_neg (by omega)]] at this
theorem cmp_nan {x : Nat} (h : NanW x) (y : Nat) : FloatKind.f64.format.order x y = none ∧ FloatKind.f64.format.order y x = none := ⟨order_nan_left h y, order_nan_right h y⟩

theorem rank_zero (x : Nat) (w : World) (hx : x ≤ infW) : Calls Try.prog 24 #[.float .f64 x] w fun e w' => e = .returned (.int .i64 0) ∧ w = w' := by
  have o := cmp_eq hx
  go_enter Try.func24, Try.ntmps24
  go_wp2
  go_ret
  exact ⟨rfl, rfl⟩
theorem rank_one (x : Nat) (w : World) (hx : NanW x) : Calls Try.prog 24 #[.float .f64 x] w fun e w' => e = .returned (.int .i64 1) ∧ w = w' := by
  have o := (cmp_nan hx x).1
  go_enter Try.func24, Try.ntmps24
  go_wp2
  go_ret
  exact ⟨rfl, rfl⟩
set_option maxHeartbeats 1000000 in
theorem order_any (x y k l : Nat) (w : World) (hx : Is k x) (hy : Is l y) :
    Calls Try.prog 22 #[.float .f64 x, .float .f64 y] w fun e w' => e = .returned (.int .i64 (ordK k l)) ∧ w = w' := by
  rcases hx with ⟨hk, rfl⟩ | ⟨rfl, hx⟩
  · have o1 := cmp_eq hk
    rcases hy with ⟨hl, rfl⟩ | ⟨rfl, hy⟩
    · have o2 := cmp_eq hl
      rcases Nat.lt_trichotomy x y with h | h | h
      · have o3 := cmp_lt hk hl h
        rw [show ordK x y = -1 by unfold ordK; rw [if_pos h]]
        clear h
        go_enter Try.func22, Try.ntmps22
        go_wp2_with (first | (go_at_call 28; refine (sign_any _ _ (by assumption)).mono ?_; rintro e w1 ⟨rfl, rfl⟩) | (go_at_call 25; refine (signbit_any _ _ (by assumption)).mono ?_; rintro e w1 ⟨rfl, rfl⟩))
        go_ret
        exact ⟨rfl, rfl⟩
      · subst h
        rw [show ordK x x = 0 by unfold ordK; rw [if_neg (by omega), if_pos rfl]]
        go_enter Try.func22, Try.ntmps22
        go_wp2_with (first | (go_at_call 28; refine (sign_any _ _ (by assumption)).mono ?_; rintro e w1 ⟨rfl, rfl⟩) | (go_at_call 25; refine (signbit_any _ _ (by assumption)).mono ?_; rintro e w1 ⟨rfl, rfl⟩))
        go_ret
        exact ⟨rfl, rfl⟩
      · have o3 := cmp_gt hk hl h
        rw [show ordK x y = 1 by unfold ordK; rw [if_neg (by omega), if_neg (by omega)]]
        clear h
        go_enter Try.func22, Try.ntmps22
        go_wp2_with (first | (go_at_call 28; refine (sign_any _ _ (by assumption)).mono ?_; rintro e w1 ⟨rfl, rfl⟩) | (go_at_call 25; refine (signbit_any _ _ (by assumption)).mono ?_; rintro e w1 ⟨rfl, rfl⟩))
        go_ret
        exact ⟨rfl, rfl⟩
    · obtain ⟨o2, o3⟩ := cmp_nan hy x
      have o4 := (cmp_nan hy y).1
      rw [show ordK x (infW + 1) = -1 by unfold ordK; rw [if_pos (by omega)]]
      go_enter Try.func22, Try.ntmps22
      go_wp2_with (first | (go_at_call 28; refine (sign_any _ _ (by assumption)).mono ?_; rintro e w1 ⟨rfl, rfl⟩) | (go_at_call 25; refine (signbit_any _ _ (by assumption)).mono ?_; rintro e w1 ⟨rfl, rfl⟩))
      go_ret
      exact ⟨rfl, rfl⟩
  · have o1 := (cmp_nan hx x).1
    obtain ⟨o2, o3⟩ := cmp_nan hx y
    rcases hy with ⟨hl, rfl⟩ | ⟨rfl, hy⟩
    · have o4 := cmp_eq hl
      rw [show ordK (infW + 1) y = 1 by unfold ordK; rw [if_neg (by omega), if_neg (by omega)]]
      go_enter Try.func22, Try.ntmps22
      go_wp2_with (first | (go_at_call 28; refine (sign_any _ _ (by assumption)).mono ?_; rintro e w1 ⟨rfl, rfl⟩) | (go_at_call 25; refine (signbit_any _ _ (by assumption)).mono ?_; rintro e w1 ⟨rfl, rfl⟩))
      go_ret
      exact ⟨rfl, rfl⟩
    · have o4 := (cmp_nan hy y).1
      rw [show ordK (infW + 1) (infW + 1) = 0 by unfold ordK; rw [if_neg (by omega), if_pos rfl]]
      go_enter Try.func22, Try.ntmps22
      go_wp2_with (first | (go_at_call 28; refine (sign_any _ _ (by assumption)).mono ?_; rintro e w1 ⟨rfl, rfl⟩) | (go_at_call 25; refine (signbit_any _ _ (by assumption)).mono ?_; rintro e w1 ⟨rfl, rfl⟩))
      go_ret
      exact ⟨rfl, rfl⟩
set_option maxHeartbeats 1000000 in
theorem rorder_any (x y k l : Nat) (w : World) (hx : Is k x) (hy : Is l y) :
    Calls Try.prog 12 #[.float .f64 x, .float .f64 y] w fun e w' => e = .returned (.int .i64 (ordK k l)) ∧ w = w' := by
  rcases hx with ⟨hk, rfl⟩ | ⟨rfl, hx⟩
  · have o1 := cmp_eq hk
    rcases hy with ⟨hl, rfl⟩ | ⟨rfl, hy⟩
    · have o2 := cmp_eq hl
      rcases Nat.lt_trichotomy x y with h | h | h
      · have o3 := cmp_lt hk hl h
        rw [show ordK x y = -1 by unfold ordK; rw [if_pos h]]
        clear h
        go_enter Try.func12, Try.ntmps12
        go_wp2_with (first | (go_at_call 28; refine (sign_any _ _ (by assumption)).mono ?_; rintro e w1 ⟨rfl, rfl⟩) | (go_at_call 25; refine (signbit_any _ _ (by assumption)).mono ?_; rintro e w1 ⟨rfl, rfl⟩) | (go_at_call 24; refine (rank_zero _ _ (by assumption)).mono ?_; rintro e w1 ⟨rfl, rfl⟩) | (go_at_call 24; refine (rank_one _ _ (by assumption)).mono ?_; rintro e w1 ⟨rfl, rfl⟩))
        go_ret
        exact ⟨rfl, rfl⟩
      · subst h
        rw [show ordK x x = 0 by unfold ordK; rw [if_neg (by omega), if_pos rfl]]
        go_enter Try.func12, Try.ntmps12
        go_wp2_with (first | (go_at_call 28; refine (sign_any _ _ (by assumption)).mono ?_; rintro e w1 ⟨rfl, rfl⟩) | (go_at_call 25; refine (signbit_any _ _ (by assumption)).mono ?_; rintro e w1 ⟨rfl, rfl⟩) | (go_at_call 24; refine (rank_zero _ _ (by assumption)).mono ?_; rintro e w1 ⟨rfl, rfl⟩) | (go_at_call 24; refine (rank_one _ _ (by assumption)).mono ?_; rintro e w1 ⟨rfl, rfl⟩))
        go_ret
        exact ⟨rfl, rfl⟩
      · have o3 := cmp_gt hk hl h
        rw [show ordK x y = 1 by unfold ordK; rw [if_neg (by omega), if_neg (by omega)]]
        clear h
        go_enter Try.func12, Try.ntmps12
        go_wp2_with (first | (go_at_call 28; refine (sign_any _ _ (by assumption)).mono ?_; rintro e w1 ⟨rfl, rfl⟩) | (go_at_call 25; refine (signbit_any _ _ (by assumption)).mono ?_; rintro e w1 ⟨rfl, rfl⟩) | (go_at_call 24; refine (rank_zero _ _ (by assumption)).mono ?_; rintro e w1 ⟨rfl, rfl⟩) | (go_at_call 24; refine (rank_one _ _ (by assumption)).mono ?_; rintro e w1 ⟨rfl, rfl⟩))
        go_ret
        exact ⟨rfl, rfl⟩
    · obtain ⟨o2, o3⟩ := cmp_nan hy x
      have o4 := (cmp_nan hy y).1
      rw [show ordK x (infW + 1) = -1 by unfold ordK; rw [if_pos (by omega)]]
      go_enter Try.func12, Try.ntmps12
      go_wp2_with (first | (go_at_call 28; refine (sign_any _ _ (by assumption)).mono ?_; rintro e w1 ⟨rfl, rfl⟩) | (go_at_call 25; refine (signbit_any _ _ (by assumption)).mono ?_; rintro e w1 ⟨rfl, rfl⟩) | (go_at_call 24; refine (rank_zero _ _ (by assumption)).mono ?_; rintro e w1 ⟨rfl, rfl⟩) | (go_at_call 24; refine (rank_one _ _ (by assumption)).mono ?_; rintro e w1 ⟨rfl, rfl⟩))
      go_ret
      exact ⟨rfl, rfl⟩
  · have o1 := (cmp_nan hx x).1
    obtain ⟨o2, o3⟩ := cmp_nan hx y
    rcases hy with ⟨hl, rfl⟩ | ⟨rfl, hy⟩
    · have o4 := cmp_eq hl
      rw [show ordK (infW + 1) y = 1 by unfold ordK; rw [if_neg (by omega), if_neg (by omega)]]
      go_enter Try.func12, Try.ntmps12
      go_wp2_with (first | (go_at_call 28; refine (sign_any _ _ (by assumption)).mono ?_; rintro e w1 ⟨rfl, rfl⟩) | (go_at_call 25; refine (signbit_any _ _ (by assumption)).mono ?_; rintro e w1 ⟨rfl, rfl⟩) | (go_at_call 24; refine (rank_zero _ _ (by assumption)).mono ?_; rintro e w1 ⟨rfl, rfl⟩) | (go_at_call 24; refine (rank_one _ _ (by assumption)).mono ?_; rintro e w1 ⟨rfl, rfl⟩))
      go_ret
      exact ⟨rfl, rfl⟩
    · have o4 := (cmp_nan hy y).1
      rw [show ordK (infW + 1) (infW + 1) = 0 by unfold ordK; rw [if_neg (by omega), if_pos rfl]]
      go_enter Try.func12, Try.ntmps12
      go_wp2_with (first | (go_at_call 28; refine (sign_any _ _ (by assumption)).mono ?_; rintro e w1 ⟨rfl, rfl⟩) | (go_at_call 25; refine (signbit_any _ _ (by assumption)).mono ?_; rintro e w1 ⟨rfl, rfl⟩) | (go_at_call 24; refine (rank_zero _ _ (by assumption)).mono ?_; rintro e w1 ⟨rfl, rfl⟩) | (go_at_call 24; refine (rank_one _ _ (by assumption)).mono ?_; rintro e w1 ⟨rfl, rfl⟩))
      go_ret
      exact ⟨rfl, rfl⟩
end Go.Proofs.Ytdacclclalhbaaa
