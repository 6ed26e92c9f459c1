/- The walks of root.Get, Set, Drop and of their references. Conditions: the ranges that each theorem states. -/
import Derived.Test.YtgjgnokfmjeekaaD
namespace Go.Proofs.Ytgjgnokfmjeekaa
open Go.RowKit Go.Draw

/-- the error of a handle -/
def checkT (us : List Bool) (rs : List Int) (h : Int) : Int :=
  if validT us rs = true then (if 1 ≤ h ∧ h ≤ 32 ∧ us.getD (h - 1).toNat false = true then 0 else 14) else 1

set_option maxHeartbeats 1000000 in
theorem check_any (A A' : Option Addr) (n m c c' : Nat) (us : List Bool) (rs : List Int) (h : Int) (w : World) (hu : Rd w A n 1 (bools us)) (hr : Rd w A' m 1 (words rs)) :
    Calls Try.prog 32 #[.agg #[.slice A n c, .slice A' m c'], .int .i64 h] w fun r w' => r = .returned (.int .i64 (checkT us rs h)) ∧ Ext w w' := by
  have hul : us.length = n := by have := hu.1; simpa [bools] using this
  by_cases hv : validT us rs = true
  · obtain ⟨h1, h2⟩ := valid_len hv
    obtain rfl : n = 32 := by omega
    obtain ⟨b, o, rfl, hcu⟩ := hu.2 (by omega)
    have Hul := Lib.hid hul
    clear h1 h2 hul
    by_cases l1 : h < 1
    · have ht : checkT us rs h = 14 := by simp only [checkT, hv, if_true]; rw [if_neg (by omega)]
      rw [ht]
      clear ht
      go_enter Try.func32, Try.ntmps32
      go_wp2_with (first | (go_at_call 18; refine (valid_any _ _ _ _ _ _ us rs _ (hu.ext (by (repeat (first | (with_reducible exact Ext.refl _) | assumption | (with_reducible refine Ext.alloc ?_ _) | (with_reducible refine Ext.drew ?_) | (with_reducible refine Ext.drewL ?_) | refine Ext.trans ?_ (by assumption))))) (hr.ext (by (repeat (first | (with_reducible exact Ext.refl _) | assumption | (with_reducible refine Ext.alloc ?_ _) | (with_reducible refine Ext.drew ?_) | (with_reducible refine Ext.drewL ?_) | refine Ext.trans ?_ (by assumption)))))).mono ?_; rintro e w1 ⟨rfl, hE⟩; have hcV := Ext.cell hE))
      go_ret
      exact ⟨rfl, by (repeat (first | (with_reducible exact Ext.refl _) | assumption | (with_reducible refine Ext.alloc ?_ _) | (with_reducible refine Ext.drew ?_) | (with_reducible refine Ext.drewL ?_) | refine Ext.trans ?_ (by assumption)))⟩
    · by_cases l2 : 32 < h
      · have ht : checkT us rs h = 14 := by simp only [checkT, hv, if_true]; rw [if_neg (by omega)]
        rw [ht]
        clear ht
        go_enter Try.func32, Try.ntmps32
        go_wp2_with (first | (go_at_call 18; refine (valid_any _ _ _ _ _ _ us rs _ (hu.ext (by (repeat (first | (with_reducible exact Ext.refl _) | assumption | (with_reducible refine Ext.alloc ?_ _) | (with_reducible refine Ext.drew ?_) | (with_reducible refine Ext.drewL ?_) | refine Ext.trans ?_ (by assumption))))) (hr.ext (by (repeat (first | (with_reducible exact Ext.refl _) | assumption | (with_reducible refine Ext.alloc ?_ _) | (with_reducible refine Ext.drew ?_) | (with_reducible refine Ext.drewL ?_) | refine Ext.trans ?_ (by assumption)))))).mono ?_; rintro e w1 ⟨rfl, hE⟩; have hcV := Ext.cell hE))
        go_ret
        exact ⟨rfl, by (repeat (first | (with_reducible exact Ext.refl _) | assumption | (with_reducible refine Ext.alloc ?_ _) | (with_reducible refine Ext.drew ?_) | (with_reducible refine Ext.drewL ?_) | refine Ext.trans ?_ (by assumption)))⟩
      · obtain ⟨k, rfl⟩ : ∃ k : Nat, h = (k : Int) + 1 := ⟨(h - 1).toNat, by omega⟩
        have hk : k < 32 := by omega
        have hkl : k < us.length := by rw [Hul.out]; exact hk
        have f1 : w.cell? ⟨b, o + k, none⟩ = some (.bool us[k]) := hcu k _ (by simp [bools, hkl])
        have g1 := cell_lt f1
        have e0 : ((k : Int) + 1 - 1).toNat = k := by omega
        have ht : checkT us rs ((k : Int) + 1) = if us[k] = true then 0 else 14 := by
          simp only [checkT, hv, if_true, e0, List.getD_eq_getElem?_getD, List.getElem?_eq_getElem hkl, Option.getD_some]
          by_cases hu1 : us[k] = true
          · rw [if_pos ⟨by omega, by omega, hu1⟩, if_pos hu1]
          · rw [if_neg (fun hh => hu1 hh.2.2), if_neg hu1]
        rw [ht]
        clear ht e0 hcu
        generalize us[k] = u at *
        have d1 : decide ((k : Int) + 1 < 1) = false := by simp; omega
        have d2 : decide ((32 : Int) < (k : Int) + 1) = false := by simp; omega
        have b1 : (k : Int) + 1 - 1 = k := by omega
        have b2 : (k : Int) < 32 := by omega
        clear l1 l2
        cases u with
        | true =>
          go_enter Try.func32, Try.ntmps32
          go_wp2_with (first | (go_at_call 18; refine (valid_any _ _ _ _ _ _ us rs _ (hu.ext (by (repeat (first | (with_reducible exact Ext.refl _) | assumption | (with_reducible refine Ext.alloc ?_ _) | (with_reducible refine Ext.drew ?_) | (with_reducible refine Ext.drewL ?_) | refine Ext.trans ?_ (by assumption))))) (hr.ext (by (repeat (first | (with_reducible exact Ext.refl _) | assumption | (with_reducible refine Ext.alloc ?_ _) | (with_reducible refine Ext.drew ?_) | (with_reducible refine Ext.drewL ?_) | refine Ext.trans ?_ (by assumption)))))).mono ?_; rintro e w1 ⟨rfl, hE⟩; have hcV := Ext.cell hE))
          go_ret
          exact ⟨rfl, by (repeat (first | (with_reducible exact Ext.refl _) | assumption | (with_reducible refine Ext.alloc ?_ _) | (with_reducible refine Ext.drew ?_) | (with_reducible refine Ext.drewL ?_) | refine Ext.trans ?_ (by assumption)))⟩
        | false =>
          go_enter Try.func32, Try.ntmps32
          go_wp2_with (first | (go_at_call 18; refine (valid_any _ _ _ _ _ _ us rs _ (hu.ext (by (repeat (first | (with_reducible exact Ext.refl _) | assumption | (with_reducible refine Ext.alloc ?_ _) | (with_reducible refine Ext.drew ?_) | (with_reducible refine Ext.drewL ?_) | refine Ext.trans ?_ (by assumption))))) (hr.ext (by (repeat (first | (with_reducible exact Ext.refl _) | assumption | (with_reducible refine Ext.alloc ?_ _) | (with_reducible refine Ext.drew ?_) | (with_reducible refine Ext.drewL ?_) | refine Ext.trans ?_ (by assumption)))))).mono ?_; rintro e w1 ⟨rfl, hE⟩; have hcV := Ext.cell hE))
          go_ret
          exact ⟨rfl, by (repeat (first | (with_reducible exact Ext.refl _) | assumption | (with_reducible refine Ext.alloc ?_ _) | (with_reducible refine Ext.drew ?_) | (with_reducible refine Ext.drewL ?_) | refine Ext.trans ?_ (by assumption)))⟩
  · have hv' : validT us rs = false := by simpa using hv
    have ht : checkT us rs h = 1 := by simp [checkT, hv']
    rw [ht]
    clear hul ht hv
    go_enter Try.func32, Try.ntmps32
    go_wp2_with (first | (go_at_call 18; refine (valid_any _ _ _ _ _ _ us rs _ (hu.ext (by (repeat (first | (with_reducible exact Ext.refl _) | assumption | (with_reducible refine Ext.alloc ?_ _) | (with_reducible refine Ext.drew ?_) | (with_reducible refine Ext.drewL ?_) | refine Ext.trans ?_ (by assumption))))) (hr.ext (by (repeat (first | (with_reducible exact Ext.refl _) | assumption | (with_reducible refine Ext.alloc ?_ _) | (with_reducible refine Ext.drew ?_) | (with_reducible refine Ext.drewL ?_) | refine Ext.trans ?_ (by assumption)))))).mono ?_; rintro e w1 ⟨rfl, hE⟩; have hcV := Ext.cell hE))
    go_ret
    exact ⟨rfl, by (repeat (first | (with_reducible exact Ext.refl _) | assumption | (with_reducible refine Ext.alloc ?_ _) | (with_reducible refine Ext.drew ?_) | (with_reducible refine Ext.drewL ?_) | refine Ext.trans ?_ (by assumption)))⟩

set_option maxHeartbeats 1000000 in
theorem fault_any (A A' : Option Addr) (n m c c' : Nat) (us : List Bool) (rs : List Int) (h : Int) (w : World) (hu : Rd w A n 1 (bools us)) (hr : Rd w A' m 1 (words rs)) :
    Calls Try.prog 33 #[.agg #[.slice A n c, .slice A' m c'], .int .i64 h] w fun r w' => r = .returned (.int .i64 (checkT us rs h)) ∧ Ext w w' := by
  have hul : us.length = n := by have := hu.1; simpa [bools] using this
  by_cases hv : validT us rs = true
  · obtain ⟨h1, h2⟩ := valid_len hv
    obtain rfl : n = 32 := by omega
    obtain ⟨b, o, rfl, hcu⟩ := hu.2 (by omega)
    have Hul := Lib.hid hul
    clear h1 h2 hul
    by_cases l1 : h < 1
    · have ht : checkT us rs h = 14 := by simp only [checkT, hv, if_true]; rw [if_neg (by omega)]
      rw [ht]
      clear ht
      go_enter Try.func33, Try.ntmps33
      go_wp2_with (first | (go_at_call 19; refine (rvalid_any _ _ _ _ _ _ us rs _ (hu.ext (by (repeat (first | (with_reducible exact Ext.refl _) | assumption | (with_reducible refine Ext.alloc ?_ _) | (with_reducible refine Ext.drew ?_) | (with_reducible refine Ext.drewL ?_) | refine Ext.trans ?_ (by assumption))))) (hr.ext (by (repeat (first | (with_reducible exact Ext.refl _) | assumption | (with_reducible refine Ext.alloc ?_ _) | (with_reducible refine Ext.drew ?_) | (with_reducible refine Ext.drewL ?_) | refine Ext.trans ?_ (by assumption)))))).mono ?_; rintro e w1 ⟨rfl, hE⟩; have hcV := Ext.cell hE))
      go_ret
      exact ⟨rfl, by (repeat (first | (with_reducible exact Ext.refl _) | assumption | (with_reducible refine Ext.alloc ?_ _) | (with_reducible refine Ext.drew ?_) | (with_reducible refine Ext.drewL ?_) | refine Ext.trans ?_ (by assumption)))⟩
    · by_cases l2 : 32 < h
      · have ht : checkT us rs h = 14 := by simp only [checkT, hv, if_true]; rw [if_neg (by omega)]
        rw [ht]
        clear ht
        go_enter Try.func33, Try.ntmps33
        go_wp2_with (first | (go_at_call 19; refine (rvalid_any _ _ _ _ _ _ us rs _ (hu.ext (by (repeat (first | (with_reducible exact Ext.refl _) | assumption | (with_reducible refine Ext.alloc ?_ _) | (with_reducible refine Ext.drew ?_) | (with_reducible refine Ext.drewL ?_) | refine Ext.trans ?_ (by assumption))))) (hr.ext (by (repeat (first | (with_reducible exact Ext.refl _) | assumption | (with_reducible refine Ext.alloc ?_ _) | (with_reducible refine Ext.drew ?_) | (with_reducible refine Ext.drewL ?_) | refine Ext.trans ?_ (by assumption)))))).mono ?_; rintro e w1 ⟨rfl, hE⟩; have hcV := Ext.cell hE))
        go_ret
        exact ⟨rfl, by (repeat (first | (with_reducible exact Ext.refl _) | assumption | (with_reducible refine Ext.alloc ?_ _) | (with_reducible refine Ext.drew ?_) | (with_reducible refine Ext.drewL ?_) | refine Ext.trans ?_ (by assumption)))⟩
      · obtain ⟨k, rfl⟩ : ∃ k : Nat, h = (k : Int) + 1 := ⟨(h - 1).toNat, by omega⟩
        have hk : k < 32 := by omega
        have hkl : k < us.length := by rw [Hul.out]; exact hk
        have f1 : w.cell? ⟨b, o + k, none⟩ = some (.bool us[k]) := hcu k _ (by simp [bools, hkl])
        have g1 := cell_lt f1
        have e0 : ((k : Int) + 1 - 1).toNat = k := by omega
        have ht : checkT us rs ((k : Int) + 1) = if us[k] = true then 0 else 14 := by
          simp only [checkT, hv, if_true, e0, List.getD_eq_getElem?_getD, List.getElem?_eq_getElem hkl, Option.getD_some]
          by_cases hu1 : us[k] = true
          · rw [if_pos ⟨by omega, by omega, hu1⟩, if_pos hu1]
          · rw [if_neg (fun hh => hu1 hh.2.2), if_neg hu1]
        rw [ht]
        clear ht e0 hcu
        generalize us[k] = u at *
        have d1 : decide ((k : Int) + 1 < 1) = false := by simp; omega
        have d2 : decide ((32 : Int) < (k : Int) + 1) = false := by simp; omega
        have b1 : (k : Int) + 1 - 1 = k := by omega
        have b2 : (k : Int) < 32 := by omega
        clear l1 l2
        cases u with
        | true =>
          go_enter Try.func33, Try.ntmps33
          go_wp2_with (first | (go_at_call 19; refine (rvalid_any _ _ _ _ _ _ us rs _ (hu.ext (by (repeat (first | (with_reducible exact Ext.refl _) | assumption | (with_reducible refine Ext.alloc ?_ _) | (with_reducible refine Ext.drew ?_) | (with_reducible refine Ext.drewL ?_) | refine Ext.trans ?_ (by assumption))))) (hr.ext (by (repeat (first | (with_reducible exact Ext.refl _) | assumption | (with_reducible refine Ext.alloc ?_ _) | (with_reducible refine Ext.drew ?_) | (with_reducible refine Ext.drewL ?_) | refine Ext.trans ?_ (by assumption)))))).mono ?_; rintro e w1 ⟨rfl, hE⟩; have hcV := Ext.cell hE))
          go_ret
          exact ⟨rfl, by (repeat (first | (with_reducible exact Ext.refl _) | assumption | (with_reducible refine Ext.alloc ?_ _) | (with_reducible refine Ext.drew ?_) | (with_reducible refine Ext.drewL ?_) | refine Ext.trans ?_ (by assumption)))⟩
        | false =>
          go_enter Try.func33, Try.ntmps33
          go_wp2_with (first | (go_at_call 19; refine (rvalid_any _ _ _ _ _ _ us rs _ (hu.ext (by (repeat (first | (with_reducible exact Ext.refl _) | assumption | (with_reducible refine Ext.alloc ?_ _) | (with_reducible refine Ext.drew ?_) | (with_reducible refine Ext.drewL ?_) | refine Ext.trans ?_ (by assumption))))) (hr.ext (by (repeat (first | (with_reducible exact Ext.refl _) | assumption | (with_reducible refine Ext.alloc ?_ _) | (with_reducible refine Ext.drew ?_) | (with_reducible refine Ext.drewL ?_) | refine Ext.trans ?_ (by assumption)))))).mono ?_; rintro e w1 ⟨rfl, hE⟩; have hcV := Ext.cell hE))
          go_ret
          exact ⟨rfl, by (repeat (first | (with_reducible exact Ext.refl _) | assumption | (with_reducible refine Ext.alloc ?_ _) | (with_reducible refine Ext.drew ?_) | (with_reducible refine Ext.drewL ?_) | refine Ext.trans ?_ (by assumption)))⟩
  · have hv' : validT us rs = false := by simpa using hv
    have ht : checkT us rs h = 1 := by simp [checkT, hv']
    rw [ht]
    clear hul ht hv
    go_enter Try.func33, Try.ntmps33
    go_wp2_with (first | (go_at_call 19; refine (rvalid_any _ _ _ _ _ _ us rs _ (hu.ext (by (repeat (first | (with_reducible exact Ext.refl _) | assumption | (with_reducible refine Ext.alloc ?_ _) | (with_reducible refine Ext.drew ?_) | (with_reducible refine Ext.drewL ?_) | refine Ext.trans ?_ (by assumption))))) (hr.ext (by (repeat (first | (with_reducible exact Ext.refl _) | assumption | (with_reducible refine Ext.alloc ?_ _) | (with_reducible refine Ext.drew ?_) | (with_reducible refine Ext.drewL ?_) | refine Ext.trans ?_ (by assumption)))))).mono ?_; rintro e w1 ⟨rfl, hE⟩; have hcV := Ext.cell hE))
    go_ret
    exact ⟨rfl, by (repeat (first | (with_reducible exact Ext.refl _) | assumption | (with_reducible refine Ext.alloc ?_ _) | (with_reducible refine Ext.drew ?_) | (with_reducible refine Ext.drewL ?_) | refine Ext.trans ?_ (by assumption)))⟩

end Go.Proofs.Ytgjgnokfmjeekaa
