/- The walk of the law RootApart. Conditions: the ranges that each theorem states. -/
import Derived.Test.YtgjgnokfmjeekaaQ
import Derived.Test.YtgjgnokfmjeekaaI
import Derived.Test.YtgjgnokfmjeekaaO
namespace Go.Proofs.Ytgjgnokfmjeekaa
open Go.RowKit Go.Draw

theorem live_at {us : List Bool} {k j : Nat} {p : Int} (h : (liveTo us k)[j]? = some p) : ∃ i, i < k ∧ p = (i : Int) + 1 ∧ us.getD i false = true := by
  have hm := List.mem_of_getElem? h
  simp only [liveTo, List.mem_map, List.mem_filter, List.mem_range] at hm
  obtain ⟨i, ⟨h1, h2⟩, h3⟩ := hm
  exact ⟨i, h1, h3.symm, h2⟩
theorem live_same {us : List Bool} {i : Nat} {b : Bool} : ∀ {k : Nat}, k ≤ i → liveTo (us.set i b) k = liveTo us k
  | 0, _ => rfl
  | k + 1, h => by
    have ih := live_same (us := us) (i := i) (b := b) (k := k) (by omega)
    have e : (us.set i b).getD k false = us.getD k false := by simp [List.getD_eq_getElem?_getD, List.getElem?_set, show i ≠ k by omega]
    cases hg : us.getD k false with
    | true => rw [liveTo_yes _ _ (by rw [e]; exact hg), liveTo_yes _ _ hg, ih]
    | false => rw [liveTo_no _ _ (by rw [e]; exact hg), liveTo_no _ _ hg, ih]
theorem live_more {us : List Bool} {i : Nat} (hi : i < us.length) (h : us.getD i false = false) : ∀ {k : Nat}, i < k → (liveTo (us.set i true) k).length = (liveTo us k).length + 1
  | 0, hk => by omega
  | k + 1, hk => by
    by_cases e : i = k
    · subst e
      have h1 : (us.set i true).getD i false = true := by simp [List.getD_eq_getElem?_getD, hi]
      rw [liveTo_yes _ _ h1, liveTo_no _ _ h, live_same (Nat.le_refl _)]
      simp
    · have ih := live_more hi h (k := k) (by omega)
      have e : (us.set i true).getD k false = us.getD k false := by simp [List.getD_eq_getElem?_getD, List.getElem?_set, e]
      cases hg : us.getD k false with
      | true => rw [liveTo_yes _ _ (by rw [e]; exact hg), liveTo_yes _ _ hg]; simp [ih]
      | false => rw [liveTo_no _ _ (by rw [e]; exact hg), liveTo_no _ _ hg, ih]
theorem live_all {us : List Bool} : ∀ {k : Nat}, (∀ j, j < k → us.getD j false = true) → (liveTo us k).length = k
  | 0, _ => rfl
  | k + 1, h => by
    rw [liveTo_yes _ _ (h k (by omega))]
    simp [live_all (us := us) (k := k) (fun j hj => h j (by omega))]
theorem check_ok {us : List Bool} {rs : List Int} {i : Nat} (hv : validT us rs = true) (hi : i < 32) (h : us.getD i false = true) : checkT us rs ((i : Int) + 1) = 0 := by
  have e0 : ((i : Int) + 1 - 1).toNat = i := by omega
  simp only [checkT, hv, if_true, e0]
  rw [if_pos ⟨by omega, by omega, h⟩]
theorem free_at {us : List Bool} (h : us.idxOf false < us.length) : us.getD (us.idxOf false) false = false := by
  rw [List.getD_eq_getElem?_getD, List.getElem?_eq_getElem h]
  simp
theorem free_none {us : List Bool} (h : ¬ us.idxOf false < us.length) (j : Nat) (hj : j < us.length) : us.getD j false = true := by
  rw [List.idxOf_lt_length_iff] at h
  rw [List.getD_eq_getElem?_getD, List.getElem?_eq_getElem hj]
  simp only [Option.getD_some]
  cases e : us[j] with
  | true => rfl
  | false => exact absurd (e ▸ List.getElem_mem hj) h
theorem valid_at {us : List Bool} {rs : List Int} (hv : validT us rs = true) {i : Nat} (hi : i < 32) (h : us.getD i false = false) : rs.getD i 0 = 0 := by
  obtain ⟨h1, h2⟩ := valid_len hv
  simp only [validT, Bool.and_eq_true, List.all_eq_true, List.mem_range] at hv
  have h3 := hv.2 i hi
  have hiu : i < us.length := by omega
  simp only [okAt, List.getD_eq_getElem?_getD, List.getElem?_eq_getElem hiu, Option.getD_some, Bool.or_eq_true, beq_iff_eq] at h3 h
  rcases h3 with h3 | h3
  · rw [h] at h3; cases h3
  · rw [List.getD_eq_getElem?_getD]; exact h3
theorem set_self {α : Type} {l : List α} {i : Nat} {x d : α} (hi : i < l.length) (h : l.getD i d = x) : l.set i x = l := by
  rw [List.getD_eq_getElem?_getD, List.getElem?_eq_getElem hi] at h
  simp only [Option.getD_some] at h
  subst h
  exact List.set_getElem_self hi
/-- a handle added and taken away: the table is as before -/
theorem back {us : List Bool} {rs : List Int} {v : Int} (hv : validT us rs = true) (h : us.idxOf false < us.length) :
    dropT (us.set (us.idxOf false) true) (rs.set (us.idxOf false) v) ((us.idxOf false : Int) + 1) = (us, rs, 0) := by
  obtain ⟨h1, h2⟩ := valid_len hv
  have hi : us.idxOf false < 32 := by omega
  have hf := free_at h
  have hz := valid_at hv hi hf
  have hc : checkT (us.set (us.idxOf false) true) (rs.set (us.idxOf false) v) ((us.idxOf false : Int) + 1) = 0 :=
    check_ok (valid_set hv hi rfl) hi (by simp [List.getD_eq_getElem?_getD, h])
  have e0 : ((us.idxOf false : Int) + 1 - 1).toNat = us.idxOf false := by omega
  simp only [dropT, hc, if_true, e0, List.set_set]
  have e1 : us.set (us.idxOf false) false = us := set_self h hf
  have e2 : rs.set (us.idxOf false) 0 = rs := set_self (by omega) hz
  rw [e1, e2]
/-- the last test's answer -/
theorem apart_val {us : List Bool} {rs : List Int} {v : Int} {i j : Nat} (hv : validT us rs = true) (hi : i < 32) (hj : j < 32) (hui : us.getD i false = true) (huj : us.getD j false = true) :
    setT us rs ((i : Int) + 1) v = (us, rs.set i v, 0) ∧ getT us (rs.set i v) ((j : Int) + 1) = (if i = j then v else rs.getD j 0, 0) ∧ getT us rs ((j : Int) + 1) = (rs.getD j 0, 0) := by
  obtain ⟨h1, h2⟩ := valid_len hv
  have e0 : ((i : Int) + 1 - 1).toNat = i := by omega
  have e1 : ((j : Int) + 1 - 1).toNat = j := by omega
  have hv2 : validT us (rs.set i v) = true := by
    have e : us.set i true = us := set_self (by omega) hui
    have := valid_set (v := v) hv hi (b := true) rfl
    rwa [e] at this
  refine ⟨?_, ?_, ?_⟩
  · simp only [setT, check_ok hv hi hui, if_true, e0]
  · simp only [getT, check_ok hv2 hj huj, if_true, e1]
    congr 1
    simp only [List.getD_eq_getElem?_getD, List.getElem?_set]
    by_cases e : i = j
    · subst e
      simp [show i < rs.length by omega]
    · simp [e]
  · simp only [getT, check_ok hv hj huj, if_true, e1]
end Go.Proofs.Ytgjgnokfmjeekaa
