/- The walks of root.Get and its reference. Conditions: the ranges that each theorem states. -/
import Derived.Test.YtgjgnokfmjeekaaE
namespace Go.Proofs.Ytgjgnokfmjeekaa
open Go.RowKit Go.Draw

theorem check_zero {us : List Bool} {rs : List Int} {h : Int} (hc : checkT us rs h = 0) : validT us rs = true ∧ ∃ k : Nat, k < 32 ∧ h = (k : Int) + 1 ∧ us[k]? = some true := by
  unfold checkT at hc
  by_cases hv : validT us rs = true
  · rw [if_pos hv] at hc
    by_cases h1 : 1 ≤ h ∧ h ≤ 32 ∧ us.getD (h - 1).toNat false = true
    · obtain ⟨a, b, c⟩ := h1
      refine ⟨hv, (h - 1).toNat, by omega, by omega, ?_⟩
      rw [List.getD_eq_getElem?_getD] at c
      cases hg : us[(h - 1).toNat]? with
      | none => rw [hg] at c; cases c
      | some u => rw [hg] at c; simp at c; rw [c]
    · rw [if_neg h1] at hc; cases hc
  · rw [if_neg hv] at hc; cases hc

/-- the word of a handle, and the error -/
def getT (us : List Bool) (rs : List Int) (h : Int) : Int × Int := if checkT us rs h = 0 then (rs.getD (h - 1).toNat 0, 0) else (0, checkT us rs h)

set_option maxHeartbeats 1000000 in
theorem get_any (A A' : Option Addr) (n m c c' : Nat) (us : List Bool) (rs : List Int) (h : Int) (w : World) (hu : Rd w A n 1 (bools us)) (hr : Rd w A' m 1 (words rs)) :
    Calls Try.prog 14 #[.agg #[.slice A n c, .slice A' m c'], .int .i64 h] w fun r w' => r = .returned (.tuple #[.int .u64 (getT us rs h).1, .int .i64 (getT us rs h).2]) ∧ Ext w w' := by
  by_cases hc : checkT us rs h = 0
  · obtain ⟨hv, k, hk, rfl, hku⟩ := check_zero hc
    obtain ⟨h1, h2⟩ := valid_len hv
    have hrl : rs.length = m := by have := hr.1; simpa [words] using this
    obtain rfl : m = 32 := by omega
    obtain ⟨b, o, rfl, hcr⟩ := hr.2 (by omega)
    have hkl : k < rs.length := by rw [h2]; exact hk
    have f1 : w.cell? ⟨b, o + k, none⟩ = some (.int .u64 rs[k]) := hcr k _ (by simp [words, hkl])
    have g1 := cell_lt f1
    have e0 : ((k : Int) + 1 - 1).toNat = k := by omega
    have ht : getT us rs ((k : Int) + 1) = (rs[k], 0) := by
      simp only [getT, hc, if_true, e0, List.getD_eq_getElem?_getD, List.getElem?_eq_getElem hkl, Option.getD_some]
    rw [ht]
    clear ht e0 hcr hku h1 h2 hrl hv
    generalize rs[k] = r at *
    have b1 : (k : Int) + 1 - 1 = k := by omega
    have b2 : (k : Int) < 32 := by omega
    go_enter Try.func14, Try.ntmps14
    go_wp2_with (first | (go_at_call 32; refine (check_any _ _ _ _ _ _ us rs _ _ (hu.ext (by (repeat (first | (with_reducible exact Ext.refl _) | assumption | (with_reducible refine Ext.alloc ?_ _) | (with_reducible refine Ext.drew ?_) | (with_reducible refine Ext.drewL ?_) | refine Ext.trans ?_ (by assumption))))) (hr.ext (by (repeat (first | (with_reducible exact Ext.refl _) | assumption | (with_reducible refine Ext.alloc ?_ _) | (with_reducible refine Ext.drew ?_) | (with_reducible refine Ext.drewL ?_) | refine Ext.trans ?_ (by assumption)))))).mono ?_; rintro e w1 ⟨rfl, hE⟩; have hcV := Ext.cell hE))
    go_ret2
    exact ⟨rfl, by (repeat (first | (with_reducible exact Ext.refl _) | assumption | (with_reducible refine Ext.alloc ?_ _) | (with_reducible refine Ext.drew ?_) | (with_reducible refine Ext.drewL ?_) | refine Ext.trans ?_ (by assumption)))⟩
  · have ht : getT us rs h = (0, checkT us rs h) := by simp only [getT, if_neg hc]
    rw [ht]
    clear ht
    have hc1 : (checkT us rs h != 0) = true := by simpa using hc
    clear hc
    go_enter Try.func14, Try.ntmps14
    go_wp2_with (first | (go_at_call 32; refine (check_any _ _ _ _ _ _ us rs _ _ (hu.ext (by (repeat (first | (with_reducible exact Ext.refl _) | assumption | (with_reducible refine Ext.alloc ?_ _) | (with_reducible refine Ext.drew ?_) | (with_reducible refine Ext.drewL ?_) | refine Ext.trans ?_ (by assumption))))) (hr.ext (by (repeat (first | (with_reducible exact Ext.refl _) | assumption | (with_reducible refine Ext.alloc ?_ _) | (with_reducible refine Ext.drew ?_) | (with_reducible refine Ext.drewL ?_) | refine Ext.trans ?_ (by assumption)))))).mono ?_; rintro e w1 ⟨rfl, hE⟩; have hcV := Ext.cell hE))
    go_ret2
    exact ⟨rfl, by (repeat (first | (with_reducible exact Ext.refl _) | assumption | (with_reducible refine Ext.alloc ?_ _) | (with_reducible refine Ext.drew ?_) | (with_reducible refine Ext.drewL ?_) | refine Ext.trans ?_ (by assumption)))⟩

set_option maxHeartbeats 1000000 in
theorem rget_any (A A' : Option Addr) (n m c c' : Nat) (us : List Bool) (rs : List Int) (h : Int) (w : World) (hu : Rd w A n 1 (bools us)) (hr : Rd w A' m 1 (words rs)) :
    Calls Try.prog 25 #[.agg #[.slice A n c, .slice A' m c'], .int .i64 h] w fun r w' => r = .returned (.tuple #[.int .u64 (getT us rs h).1, .int .i64 (getT us rs h).2]) ∧ Ext w w' := by
  by_cases hc : checkT us rs h = 0
  · obtain ⟨hv, k, hk, rfl, hku⟩ := check_zero hc
    obtain ⟨h1, h2⟩ := valid_len hv
    have hrl : rs.length = m := by have := hr.1; simpa [words] using this
    obtain rfl : m = 32 := by omega
    obtain ⟨b, o, rfl, hcr⟩ := hr.2 (by omega)
    have hkl : k < rs.length := by rw [h2]; exact hk
    have f1 : w.cell? ⟨b, o + k, none⟩ = some (.int .u64 rs[k]) := hcr k _ (by simp [words, hkl])
    have g1 := cell_lt f1
    have e0 : ((k : Int) + 1 - 1).toNat = k := by omega
    have ht : getT us rs ((k : Int) + 1) = (rs[k], 0) := by
      simp only [getT, hc, if_true, e0, List.getD_eq_getElem?_getD, List.getElem?_eq_getElem hkl, Option.getD_some]
    rw [ht]
    clear ht e0 hcr hku h1 h2 hrl hv
    generalize rs[k] = r at *
    have b1 : (k : Int) + 1 - 1 = k := by omega
    have b2 : (k : Int) < 32 := by omega
    go_enter Try.func25, Try.ntmps25
    go_wp2_with (first | (go_at_call 33; refine (fault_any _ _ _ _ _ _ us rs _ _ (hu.ext (by (repeat (first | (with_reducible exact Ext.refl _) | assumption | (with_reducible refine Ext.alloc ?_ _) | (with_reducible refine Ext.drew ?_) | (with_reducible refine Ext.drewL ?_) | refine Ext.trans ?_ (by assumption))))) (hr.ext (by (repeat (first | (with_reducible exact Ext.refl _) | assumption | (with_reducible refine Ext.alloc ?_ _) | (with_reducible refine Ext.drew ?_) | (with_reducible refine Ext.drewL ?_) | refine Ext.trans ?_ (by assumption)))))).mono ?_; rintro e w1 ⟨rfl, hE⟩; have hcV := Ext.cell hE))
    go_ret2
    exact ⟨rfl, by (repeat (first | (with_reducible exact Ext.refl _) | assumption | (with_reducible refine Ext.alloc ?_ _) | (with_reducible refine Ext.drew ?_) | (with_reducible refine Ext.drewL ?_) | refine Ext.trans ?_ (by assumption)))⟩
  · have ht : getT us rs h = (0, checkT us rs h) := by simp only [getT, if_neg hc]
    rw [ht]
    clear ht
    have hc1 : (checkT us rs h != 0) = true := by simpa using hc
    clear hc
    go_enter Try.func25, Try.ntmps25
    go_wp2_with (first | (go_at_call 33; refine (fault_any _ _ _ _ _ _ us rs _ _ (hu.ext (by (repeat (first | (with_reducible exact Ext.refl _) | assumption | (with_reducible refine Ext.alloc ?_ _) | (with_reducible refine Ext.drew ?_) | (with_reducible refine Ext.drewL ?_) | refine Ext.trans ?_ (by assumption))))) (hr.ext (by (repeat (first | (with_reducible exact Ext.refl _) | assumption | (with_reducible refine Ext.alloc ?_ _) | (with_reducible refine Ext.drew ?_) | (with_reducible refine Ext.drewL ?_) | refine Ext.trans ?_ (by assumption)))))).mono ?_; rintro e w1 ⟨rfl, hE⟩; have hcV := Ext.cell hE))
    go_ret2
    exact ⟨rfl, by (repeat (first | (with_reducible exact Ext.refl _) | assumption | (with_reducible refine Ext.alloc ?_ _) | (with_reducible refine Ext.drew ?_) | (with_reducible refine Ext.drewL ?_) | refine Ext.trans ?_ (by assumption)))⟩

end Go.Proofs.Ytgjgnokfmjeekaa
