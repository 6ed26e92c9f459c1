/- The walks of the reference's handle, node, fail and free. Conditions: the ranges that each theorem states. -/
import Derived.Test.YtamghjilcfeheaaG
namespace Go.Proofs.Ytamghjilcfeheaa
open Go.RowKit Go.Draw

theorem hErr_zero (g : Gr) (need : Bool) : hErr g 0 need = if need then 16 else 0 := by simp [hErr]
theorem hErr_out (g : Gr) (x : Int) (need : Bool) (h0 : x ≠ 0) (h : x < 1 ∨ 32 < x) : hErr g x need = 14 := by unfold hErr; rw [if_neg h0, if_pos]; rcases h with h | h <;> simp [h]
theorem hErr_in (g : Gr) (i : Nat) (need : Bool) (u : Bool) (h : i < 32) (hu : g.us[i]? = some u) : hErr g ((i : Int) + 1) need = if u then 0 else 14 := by
  have e : ((i : Int) + 1 - 1).toNat = i := by omega
  have h0 : ¬ ((i : Int) + 1 = 0) := by omega
  have h1 : ¬ ((i : Int) + 1 < 1) := by omega
  have h2 : ¬ (32 < (i : Int) + 1) := by omega
  unfold hErr
  rw [if_neg h0, e, List.getD_eq_getElem?_getD, hu]
  cases u <;> simp [h1, h2]
theorem hNd_zero (g : Gr) : hNd g 0 = -1 := by simp [hNd]
theorem hNd_in (g : Gr) (i : Nat) (r : Int) (hr : g.rs[i]? = some r) : hNd g ((i : Int) + 1) = r := by
  have e : ((i : Int) + 1 - 1).toNat = i := by omega
  have h0 : ¬ ((i : Int) + 1 = 0) := by omega
  unfold hNd
  rw [if_neg h0, e, List.getD_eq_getElem?_getD, hr]
  rfl
/-- a handle in use -/
theorem hErr_ok {g : Gr} {x : Int} {need : Bool} (hlu : g.us.length = 32) (h : hErr g x need = 0) : (x = 0 ∧ need = false) ∨ ∃ i : Nat, x = (i : Int) + 1 ∧ i < 32 ∧ g.us[i]? = some true := by
  by_cases h0 : x = 0
  · subst h0
    cases need
    · exact Or.inl ⟨rfl, rfl⟩
    · simp [hErr] at h
  · by_cases h1 : x < 1 ∨ 32 < x
    · rw [hErr_out g x need h0 h1] at h; simp at h
    · obtain ⟨i, rfl⟩ : ∃ i : Nat, x = (i : Int) + 1 := ⟨(x - 1).toNat, by omega⟩
      have hi : i < 32 := by omega
      obtain ⟨u, hu⟩ : ∃ u, g.us[i]? = some u := ⟨_, List.getElem?_eq_getElem (by omega)⟩
      rw [hErr_in g i need u hi hu] at h
      cases u
      · simp at h
      · exact Or.inr ⟨i, rfl, hi, hu⟩

set_option maxHeartbeats 400000 in
theorem handle_any (v : Value) (g : Gr) (x : Int) (need : Bool) (w : World) (hg : GRd w v g) (hlu0 : g.us.length = 32) :
    Calls Try.prog 35 #[v, .int .i64 x, .bool need] w fun e w' => e = .returned (.int .i64 (hErr g x need)) ∧ Ext w w' := by
  obtain ⟨A, a, B, b, C, c, ps, rfl, h1, h2, h3, h4⟩ := hg
  have hlu : 32 ≤ g.us.length := by omega
  clear hlu0
  have hE : Ext w (w.alloc (.cells #[.slice A g.ns.length a, .slice B g.us.length b, .slice C g.rs.length c] 26)) := by (repeat (first | (with_reducible exact Ext.refl _) | assumption | (with_reducible refine Ext.alloc ?_ _) | (with_reducible refine Ext.drew ?_) | (with_reducible refine Ext.drewL ?_) | refine Ext.trans ?_ (by assumption)))
  by_cases h0 : x = 0
  · subst h0
    cases need
    all_goals
      clear h1 h2 h3 h4
      go_enter Try.func35, Try.ntmps35
      go_wp2
      go_ret
      exact ⟨ret_int (by rw [hErr_zero]; rfl), hE⟩
  · have hd0 : (x == 0) = false := by simpa using h0
    by_cases hlo : x < 0
    · have hd1 : decide (x < 0) = true := by simpa using hlo
      have HE := Lib.hid (hErr_out g x need h0 (by omega))
      clear h1 h2 h3 h4
      go_enter Try.func35, Try.ntmps35
      go_wp2
      go_ret
      exact ⟨ret_int HE.out.symm, hE⟩
    · have hd1 : decide (x < 0) = false := by simpa using hlo
      by_cases hhi : 32 < x
      · have hd2 : decide (32 < x) = true := by simpa using hhi
        have HE := Lib.hid (hErr_out g x need h0 (by omega))
        clear h1 h2 h3 h4
        go_enter Try.func35, Try.ntmps35
        go_wp2
        go_ret
        exact ⟨ret_int HE.out.symm, hE⟩
      · obtain ⟨i, rfl⟩ : ∃ i : Nat, x = (i : Int) + 1 := ⟨(x - 1).toNat, by omega⟩
        have hd2 : decide (32 < (i : Int) + 1) = false := by simpa using hhi
        have hi : i < 32 := by omega
        obtain ⟨bb, ob, u0, rfl, hu, hcell⟩ := (h2.ext hE).at_ (k := i) (by omega)
        obtain ⟨u, hu', rfl⟩ : ∃ u, g.us[i]? = some u ∧ u0 = .bool u := by
          simp only [vb, List.getElem?_map, Option.map_eq_some_iff] at hu
          obtain ⟨u, h, e⟩ := hu
          exact ⟨u, h, e.symm⟩
        have HE := Lib.hid (hErr_in g i need u hi hu')
        have b1 : (i : Int) + 1 - 1 = i := by omega
        have b2 : i < g.us.length := by omega
        have b3 : (i : Int) < g.us.length := by omega
        have lb := cell_lt hcell
        clear h1 h2 h3 h4 hu hu'
        cases u
        all_goals
          go_enter Try.func35, Try.ntmps35
          go_wp2
          go_ret
          exact ⟨ret_int HE.out.symm, hE⟩

set_option maxHeartbeats 400000 in
theorem node36_any (v : Value) (g : Gr) (x : Int) (w : World) (hg : GRd w v g) (hlr0 : g.rs.length = 32) (hx : 0 ≤ x ∧ x ≤ 32) :
    Calls Try.prog 36 #[v, .int .i64 x] w fun e w' => e = .returned (.int .i64 (hNd g x)) ∧ Ext w w' := by
  obtain ⟨A, a, B, b, C, c, ps, rfl, h1, h2, h3, h4⟩ := hg
  have hlr : 32 ≤ g.rs.length := by omega
  clear hlr0
  have hE : Ext w (w.alloc (.cells #[.slice A g.ns.length a, .slice B g.us.length b, .slice C g.rs.length c] 26)) := by (repeat (first | (with_reducible exact Ext.refl _) | assumption | (with_reducible refine Ext.alloc ?_ _) | (with_reducible refine Ext.drew ?_) | (with_reducible refine Ext.drewL ?_) | refine Ext.trans ?_ (by assumption)))
  by_cases h0 : x = 0
  · subst h0
    clear h1 h2 h3 h4
    go_enter Try.func36, Try.ntmps36
    go_wp2
    go_ret
    exact ⟨ret_int (by rw [hNd_zero]), hE⟩
  · have hd0 : (x == 0) = false := by simpa using h0
    obtain ⟨i, rfl⟩ : ∃ i : Nat, x = (i : Int) + 1 := ⟨(x - 1).toNat, by omega⟩
    have hi : i < 32 := by omega
    obtain ⟨bb, ob, u0, rfl, hu, hcell⟩ := (h3.ext hE).at_ (k := i) (by omega)
    obtain ⟨u, hu', rfl⟩ : ∃ u, g.rs[i]? = some u ∧ u0 = .int .i64 u := by
      simp only [ints, List.getElem?_map, Option.map_eq_some_iff] at hu
      obtain ⟨u, h, e⟩ := hu
      exact ⟨u, h, e.symm⟩
    have HE := Lib.hid (hNd_in g i u hu')
    have b1 : (i : Int) + 1 - 1 = i := by omega
    have b2 : i < g.rs.length := by omega
    have b3 : (i : Int) < g.rs.length := by omega
    have lb := cell_lt hcell
    clear h1 h2 h3 h4 hu hu'
    go_enter Try.func36, Try.ntmps36
    go_wp2
    go_ret
    exact ⟨ret_int HE.out.symm, hE⟩

theorem freeT_le (us : List Bool) : freeT us ≤ us.length := List.idxOf_le_length
theorem freeT_at {us : List Bool} {k : Nat} (h1 : ∀ i < k, us[i]? = some true) (h2 : us[k]? = some false) : freeT us = k := by
  have hk := (List.getElem?_eq_some_iff.1 h2).1
  induction us generalizing k with
  | nil => simp at hk
  | cons u us ih =>
    cases k with
    | zero =>
      simp at h2; subst h2; rfl
    | succ k =>
      have := h1 0 (by omega)
      simp at this; subst this
      have := ih (k := k) (fun i hi => by have := h1 (i + 1) (by omega); simpa using this) (by simpa using h2) (by simpa using hk)
      unfold freeT at this ⊢
      rw [List.idxOf_cons]
      simp [this]
theorem freeT_none {us : List Bool} (h1 : ∀ i < us.length, us[i]? = some true) : freeT us = us.length := by
  unfold freeT
  apply List.idxOf_eq_length
  intro hm
  obtain ⟨i, hi⟩ := List.mem_iff_getElem?.1 hm
  have hl := (List.getElem?_eq_some_iff.1 hi).1
  rw [h1 i hl] at hi
  cases hi
theorem freeT_spec {us : List Bool} (h : freeT us < us.length) : us[freeT us]? = some false := by
  have hm : false ∈ us := List.idxOf_lt_length_iff.1 h
  rw [List.getElem?_eq_getElem h]
  simp [freeT]
theorem freeT_before {us : List Bool} : ∀ {i : Nat}, i < freeT us → us[i]? = some true := by
  induction us with
  | nil => intro i h; simp [freeT] at h
  | cons u us ih =>
    intro i h
    unfold freeT at h ih
    rw [List.idxOf_cons] at h
    cases u with
    | false => simp at h
    | true =>
      cases i with
      | zero => rfl
      | succ i =>
        simp only [List.getElem?_cons_succ]
        apply ih
        simp at h
        omega

/-- what free answers -/
def freeV (us : List Bool) : Int := if freeT us < us.length then (freeT us : Int) + 1 else 0
set_option maxHeartbeats 400000 in
theorem free_any (v : Value) (g : Gr) (w : World) (hg : GRd w v g) (hlu : g.us.length ≤ 1000) :
    Calls Try.prog 34 #[v] w fun e w' => e = .returned (.int .i64 (freeV g.us)) ∧ Ext w w' := by
  obtain ⟨A, a, B, b, C, c, ps, rfl, h1, h2, h3, h4⟩ := hg
  have hE : Ext w (w.alloc (.cells #[.slice A g.ns.length a, .slice B g.us.length b, .slice C g.rs.length c] 26)) := by (repeat (first | (with_reducible exact Ext.refl _) | assumption | (with_reducible refine Ext.alloc ?_ _) | (with_reducible refine Ext.drew ?_) | (with_reducible refine Ext.drewL ?_) | refine Ext.trans ?_ (by assumption)))
  have h2' := h2.ext hE
  clear h1 h2 h3 h4
  go_enter Try.func34, Try.ntmps34
  go_wp2
  go_loop [8] (fun i => ∃ k : Nat, k ≤ g.us.length ∧ i = .int .i64 k ∧ ∀ j < k, g.us[j]? = some true) (fun i => g.us.length - (intOf i).toNat)
  case atStart => exact ⟨0, by omega, rfl, fun j hj => by omega⟩
  case round =>
    obtain ⟨k, hk, rfl, hall⟩ := hrel
    have Hall := Lib.hid hall
    clear hall
    by_cases hlt : k < g.us.length
    · have hdec : decide ((k : Int) < g.us.length) = true := by simp; omega
      have hdec' : decide (k < g.us.length) = true := by simp; omega
      have hkb : (k : Int) < g.us.length := by omega
      obtain ⟨bb, ob, u0, rfl, hu, hcell⟩ := h2'.at_ hlt
      obtain ⟨u, hu', rfl⟩ : ∃ u, g.us[k]? = some u ∧ u0 = .bool u := by
        simp only [vb, List.getElem?_map, Option.map_eq_some_iff] at hu
        obtain ⟨u, h, e⟩ := hu
        exact ⟨u, h, e.symm⟩
      have Hu := Lib.hid hu'
      have lb := cell_lt hcell
      clear hu hu'
      cases u
      · go_wp2
        go_ret
        refine ⟨ret_int ?_, hE⟩
        unfold freeV
        rw [freeT_at Hall.out Hu.out, if_pos hlt]
      · go_wp2
        go_round
        case rel => exact ⟨k + 1, by omega, by go_num, fun j hj => by
          rcases Nat.lt_or_ge j k with h | h
          · exact Hall.out j h
          · have : j = k := by omega
            subst this; exact Hu.out⟩
        case measure => simp [intOf]; omega
    · have hdec : decide ((k : Int) < g.us.length) = false := by simp; omega
      have hdec' : decide (k < g.us.length) = false := by simp; omega
      go_wp2
      go_ret
      refine ⟨ret_int ?_, hE⟩
      unfold freeV
      rw [freeT_none (fun i hi => Hall.out i (by omega)), if_neg (by omega)]

set_option maxHeartbeats 400000 in
theorem fail_any (v : Value) (g : Gr) (e : Int) (w : World) (hg : GRd w v g) :
    Calls Try.prog 33 #[v, .int .i64 e] w fun r w' => r = .returned (.tuple #[v, .agg #[.int .i64 e, .int .u64 0]]) ∧ Ext w w' := by
  obtain ⟨A, a, B, b, C, c, ps, rfl, h1, h2, h3, h4⟩ := hg
  clear h1 h2 h3 h4
  go_enter Try.func33, Try.ntmps33
  go_wp2
  exact bodyPost_ret (v := .tuple #[.agg #[.slice A g.ns.length a, .slice B g.us.length b, .slice C g.rs.length c], .agg #[.int .i64 e, .int .u64 0]]) (by simp [results, Try.results33, go_sem]) rfl ⟨rfl, by (repeat (first | (with_reducible exact Ext.refl _) | assumption | (with_reducible refine Ext.alloc ?_ _) | (with_reducible refine Ext.drew ?_) | (with_reducible refine Ext.drewL ?_) | refine Ext.trans ?_ (by assumption)))⟩
end Go.Proofs.Ytamghjilcfeheaa
