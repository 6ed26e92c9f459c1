/- The walks of order.Stamp, order.Before and the law's example. Conditions: the ranges that each theorem states. -/
import Derived.Test.YtljkadpconghnaaSpcV
namespace Go.Proofs.Ytljkadpconghnaa
open Go.RowKit Go.Draw

/-- an increment's stamp -/
def Inc.st (i : Inc) : Int := i.b * 4294967296 + i.q
def Inc.v (i : Inc) : Value := .agg #[.int .i64 i.q, .int .i64 i.b, .int .i64 i.f, .int .i64 i.l, .int .i64 i.w]
set_option maxHeartbeats 400000 in
theorem stamp_any (a b c d e : Int) (w : World) (h1 : 0 ≤ b) (h2 : b < 4)  (h3 : 0 ≤ a) (h4 : a < 4294967296) :
    Calls Try.prog 8 #[.agg #[.int .i64 a, .int .i64 b, .int .i64 c, .int .i64 d, .int .i64 e]] w fun r w' => r = .returned (.int .i64 (b * 4294967296 + a)) ∧ Ext w w' := by
  go_enter Try.func8, Try.ntmps8
  go_wp2
  go_ret
  exact ⟨rfl, by (repeat (first | (with_reducible exact Ext.refl _) | assumption | (with_reducible refine Ext.alloc ?_ _) | (with_reducible refine Ext.drew ?_) | (with_reducible refine Ext.drewL ?_) | refine Ext.trans ?_ (by assumption)))⟩
set_option maxHeartbeats 400000 in
theorem before_any (a b c d e a' b' c' d' e' : Int) (w : World) (h1 : 0 ≤ b) (h2 : b < 4)  (h3 : 0 ≤ a) (h4 : a < 4294967296) (h1' : 0 ≤ b') (h2' : b' < 4)  (h3' : 0 ≤ a') (h4' : a' < 4294967296) :
    Calls Try.prog 10 #[.agg #[.int .i64 a, .int .i64 b, .int .i64 c, .int .i64 d, .int .i64 e], .agg #[.int .i64 a', .int .i64 b', .int .i64 c', .int .i64 d', .int .i64 e']] w fun r w' => r = .returned (.bool (decide (b * 4294967296 + a < b' * 4294967296 + a'))) ∧ Ext w w' := by
  go_enter Try.func10, Try.ntmps10
  go_wp2
  refine wp_region_ext [(true, 0), (true, 2), (false, 1), (false, 3), (true, 4), (true, 5)] Try.mixed (by kernel_rfl) (by simp only [pick, List.filterMap_cons, List.filterMap_nil, List.getElem?_toArray, List.getElem?_cons_succ, List.getElem?_cons_zero, Option.map_some]; rfl) ?_
  intro hx
  repeat (first
    | (refine wpL_take hx (v := ?_) (by rfl) (fun _ hc => ?_) ?_
       rotate_left
       focus (go_simp; (try go_ints); exact rfl)
       simp only [Act.put, List.setIfInBounds_toArray, List.set_cons_zero, List.set_cons_succ])
    | (refine wpL_skip (by rfl) ?_; simp only [Act.put, List.setIfInBounds_toArray, List.set_cons_zero, List.set_cons_succ])
    | (refine wpL_call (by rfl) (fun K hK => ?_); go_simp; go_at_call 8; refine (stamp_any _ _ _ _ _ _ (by omega) (by omega) (by omega) (by omega)).mono ?_; rintro e w1 ⟨rfl, hb⟩; have hc := Ext.cell hb; refine hK _ _ (hb) ?_; clear hK; intro hr; replace hx := hx.trans hr; clear hr; simp only [Act.put, List.setIfInBounds_toArray, List.set_cons_zero, List.set_cons_succ])
    | (refine wpL_call (by rfl) (fun K hK => ?_); go_simp; (first | (refine hK _ _ ?_ ?_; (focus ((repeat (first | (with_reducible exact Ext.refl _) | assumption | (with_reducible refine Ext.alloc ?_ _) | (with_reducible refine Ext.drew ?_) | (with_reducible refine Ext.drewL ?_) | refine Ext.trans ?_ (by assumption))); done))) | (refine hK undef _ ?_ ?_; (focus ((repeat (first | (with_reducible exact Ext.refl _) | assumption | (with_reducible refine Ext.alloc ?_ _) | (with_reducible refine Ext.drew ?_) | (with_reducible refine Ext.drewL ?_) | refine Ext.trans ?_ (by assumption))); done)))); clear hK; intro hr; replace hx := hx.trans hr; clear hr; try simp only [Act.put, List.setIfInBounds_toArray, List.set_cons_zero, List.set_cons_succ]))
  refine wpL_end ?_
  go_wp2
  go_ret
  exact ⟨rfl, by (repeat (first | (with_reducible exact Ext.refl _) | assumption | (with_reducible refine Ext.alloc ?_ _) | (with_reducible refine Ext.drew ?_) | (with_reducible refine Ext.drewL ?_) | refine Ext.trans ?_ (by assumption)))⟩
set_option maxHeartbeats 400000 in
theorem awake_any (w : World) : Calls Try.prog 12 #[] w fun r w' => r = .returned (.bool true) ∧ Ext w w' := by
  go_enter Try.func12, Try.ntmps12
  go_wp2_with (first | (go_at_call 8; refine (stamp_any _ _ _ _ _ _ (by omega) (by omega) (by omega) (by omega)).mono ?_; rintro e w1 ⟨rfl, hb⟩; have hc := Ext.cell hb) | (go_at_call 10; refine (before_any _ _ _ _ _ _ _ _ _ _ _ (by omega) (by omega) (by omega) (by omega) (by omega) (by omega) (by omega) (by omega)).mono ?_; rintro e w1 ⟨rfl, hb⟩; have hc := Ext.cell hb))
  go_ret
  exact ⟨rfl, by (repeat (first | (with_reducible exact Ext.refl _) | assumption | (with_reducible refine Ext.alloc ?_ _) | (with_reducible refine Ext.drew ?_) | (with_reducible refine Ext.drewL ?_) | refine Ext.trans ?_ (by assumption)))⟩
theorem before_to (i j : Inc) (b : Bool) (w : World) (h1 : 0 ≤ i.b) (h2 : i.b < 4)  (h3 : 0 ≤ i.q) (h4 : i.q < 4294967296) (h1' : 0 ≤ j.b) (h2' : j.b < 4)  (h3' : 0 ≤ j.q) (h4' : j.q < 4294967296) (hb : decide (i.st < j.st) = b) :
    Calls Try.prog 10 #[.agg #[.int .i64 i.q, .int .i64 i.b, .int .i64 i.f, .int .i64 i.l, .int .i64 i.w], .agg #[.int .i64 j.q, .int .i64 j.b, .int .i64 j.f, .int .i64 j.l, .int .i64 j.w]] w fun r w' => r = .returned (.bool b) ∧ Ext w w' := by
  subst hb
  exact before_any _ _ _ _ _ _ _ _ _ _ _ h1 h2 h3 h4 h1' h2' h3' h4'

/- plain facts of the order -/
theorem srt_eq_perm {a b : List Int} : srt a = srt b ↔ a.Perm b := by
  constructor
  · intro h
    have h1 := srt_perm a
    rw [h] at h1
    exact h1.symm.trans (srt_perm b)
  · intro h
    have hp : (srt a).Perm (srt b) := (srt_perm a).trans (h.trans (srt_perm b).symm)
    have hs : ∀ z : List Int, (srt z).Pairwise (fun x y => decide (x ≤ y) = true) := fun z => by
      refine List.pairwise_mergeSort ?_ ?_ z
      · intro x y z h1 h2
        simp only [decide_eq_true_eq] at *
        omega
      · intro x y
        simp only [Bool.or_eq_true, decide_eq_true_eq]
        omega
    refine List.Perm.eq_of_pairwise ?_ (hs a) (hs b) hp
    intro x y _ _ h1 h2
    simp only [decide_eq_true_eq] at h1 h2
    omega
theorem srt_asc (z : List Int) : (srt z).Pairwise (fun x y => x ≤ y) := by
  have := List.pairwise_mergeSort (le := fun x y => decide ((x : Int) ≤ y)) (by intro x y z h1 h2; simp only [decide_eq_true_eq] at *; omega) (by intro x y; simp only [Bool.or_eq_true, decide_eq_true_eq]; omega) z
  exact this.imp (by simp)
theorem compact_len {z : List Int} (hs : z.Pairwise (fun x y => x ≤ y)) : (Lib.compact z).length = z.length ↔ z.Nodup := by
  unfold Lib.compact Lib.compactUpTo
  rw [List.length_map]
  have h1 : (((List.range z.length).filter (Lib.keeps z.toArray)).length = z.length) ↔ ∀ j < z.length, Lib.keeps z.toArray j = true := by
    have e : z.length = (List.range z.length).length := by simp
    constructor
    · intro h j hj
      rw [e] at h
      simp only [List.length_range] at h
      have := List.length_filter_eq_length_iff.1 (by rw [List.length_range]; exact h) 
      exact this j (List.mem_range.2 hj)
    · intro h
      have := List.length_filter_eq_length_iff (l := List.range z.length) (p := Lib.keeps z.toArray).2 (fun j hj => h j (List.mem_range.1 hj))
      rw [List.length_range] at this
      exact this
  rw [h1]
  constructor
  · intro h
    refine List.pairwise_iff_getElem.2 fun i j hi hj hij he => ?_
    have hk := h (i + 1) (by omega)
    have hle1 : z[i] ≤ z[i + 1] := List.pairwise_iff_getElem.1 hs i (i + 1) hi (by omega) (by omega)
    have hle2 : z[i + 1] ≤ z[j] := by
      rcases Nat.lt_or_ge (i + 1) j with hlt | hge
      · exact List.pairwise_iff_getElem.1 hs (i + 1) j (by omega) hj hlt
      · have : i + 1 = j := by omega
        subst this
        exact Int.le_refl _
    have : z[i] = z[i + 1] := by omega
    unfold Lib.keeps at hk
    simp [show i < z.length from hi, show i + 1 < z.length by omega] at hk
    exact hk this.symm
  · intro h j hj
    unfold Lib.keeps
    rcases Nat.eq_zero_or_pos j with rfl | hp
    · simp
    · obtain ⟨i, rfl⟩ : ∃ i, j = i + 1 := ⟨j - 1, by omega⟩
      have hne := List.pairwise_iff_getElem.1 h i (i + 1) (by omega) hj (by omega)
      simp [show i < z.length by omega, show i + 1 < z.length from hj]
      exact fun e => hne e.symm
theorem prefB_iff (F : List Inc) (zs : List Int) : prefB F zs = true ↔ zs.length ≤ F.length ∧ ((F.take zs.length).map (·.q)).Perm zs ∧ zs.Nodup := by
  unfold prefB
  simp only [Bool.and_eq_true, decide_eq_true_eq]
  rw [srt_eq_perm]
  constructor
  · rintro ⟨h1, h2, h3⟩
    rw [← srt_len zs] at h3
    exact ⟨h1, h2, (srt_perm zs).nodup_iff.1 ((compact_len (srt_asc zs)).1 h3)⟩
  · rintro ⟨h1, h2, h3⟩
    refine ⟨h1, h2, ?_⟩
    rw [← srt_len zs]
    exact (compact_len (srt_asc zs)).2 ((srt_perm zs).nodup_iff.2 h3)
theorem prefB_nil (F : List Inc) : prefB F [] = true := (prefB_iff F []).2 ⟨by simp, by simp, by simp⟩
theorem prefB_one (i : Inc) (F : List Inc) (z : Int) : prefB (i :: F) [z] = decide (i.q = z) := by
  rw [Bool.eq_iff_iff, prefB_iff]
  simp only [List.length_cons, List.length_nil, decide_eq_true_eq]
  constructor
  · rintro ⟨_, h, _⟩
    simp at h
    exact h
  · intro h
    subst h
    exact ⟨by omega, by simp, by simp⟩
end Go.Proofs.Ytljkadpconghnaa
