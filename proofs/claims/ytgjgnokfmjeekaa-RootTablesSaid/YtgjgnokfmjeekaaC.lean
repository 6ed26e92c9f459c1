/- The walks of package root's functions that copy a table, find a free entry, take. Conditions: the ranges that each theorem states. -/
import Derived.Test.YtgjgnokfmjeekaaB
namespace Go.Proofs.Ytgjgnokfmjeekaa
open Go.RowKit Go.Draw

set_option maxHeartbeats 1000000 in
theorem copy_any (A A' : Option Addr) (n m c c' : Nat) (us : List Bool) (rs : List Int) (w : World) (hu : Rd w A n 1 (bools us)) (hr : Rd w A' m 1 (words rs)) (hn : n ≤ 1000000) (hm : m ≤ 1000000) :
    Calls Try.prog 16 #[.agg #[.slice A n c, .slice A' m c']] w fun r w' => RetTab w us rs n m r w' := by
  go_enter Try.func16, Try.ntmps16
  go_wp2
  refine wp_region_but [w.heap.size + 1] [(true, 0), (true, 1), (true, 3), (true, 4), (false, 2), (false, 5), (true, 6), (false, 7)] Try.mixed (by kernel_rfl) (by simp only [pick, List.filterMap_cons, List.filterMap_nil, List.getElem?_toArray, List.getElem?_cons_succ, List.getElem?_cons_zero, Option.map_some]; rfl) ?_
  intro hx hy
  repeat (first
    | (refine wpL_takeB hx (v := ?_) (by rfl) (fun _ hc => ?_) ?_
       rotate_left
       focus (go_simp; (try go_ints); exact rfl)
       simp only [Act.put, List.setIfInBounds_toArray, List.set_cons_zero, List.set_cons_succ])
    | (refine wpL_skip (by rfl) ?_; simp only [Act.put, List.setIfInBounds_toArray, List.set_cons_zero, List.set_cons_succ])
    | (refine wpL_call (by rfl) (fun K hK => ?_); refine wp_clone Try.el27 _ _ rfl rfl _ A n c (bools us) rfl (hu.ext (by (repeat (first | (with_reducible exact Ext.refl _) | assumption | (with_reducible refine Ext.alloc ?_ _) | (with_reducible refine Ext.drew ?_) | (with_reducible refine Ext.drewL ?_) | refine Ext.trans ?_ (by assumption))))) (one_bools us) hn (by omega) (Nat.le_refl _) ?_; intro B d w1 hB hE; have hz := hE.size_le; simp at hz; refine hK _ _ ((hE).but _) ?_; clear hK; intro hr; replace hx := hx.trans hr; clear hr; replace hy := Ext.trans hy (Ext.trans (by (repeat (first | (with_reducible exact Ext.refl _) | assumption | (with_reducible refine Ext.alloc ?_ _) | (with_reducible refine Ext.drew ?_) | (with_reducible refine Ext.drewL ?_) | refine Ext.trans ?_ (by assumption)))) (hE)); simp only [Act.put, List.setIfInBounds_toArray, List.set_cons_zero, List.set_cons_succ])
    | (refine wpL_call (by rfl) (fun K hK => ?_); refine wp_clone Try.el28 _ _ rfl rfl _ A' m c' (words rs) rfl (hr.ext (by (repeat (first | (with_reducible exact Ext.refl _) | assumption | (with_reducible refine Ext.alloc ?_ _) | (with_reducible refine Ext.drew ?_) | (with_reducible refine Ext.drewL ?_) | refine Ext.trans ?_ (by assumption))))) (one_words rs) hm (by omega) (Nat.le_refl _) ?_; intro B' d' w1 hB' hE'; refine hK _ _ ((hE').but _) ?_; clear hK; intro hr; replace hx := hx.trans hr; clear hr; replace hy := Ext.trans hy (Ext.trans (by (repeat (first | (with_reducible exact Ext.refl _) | assumption | (with_reducible refine Ext.alloc ?_ _) | (with_reducible refine Ext.drew ?_) | (with_reducible refine Ext.drewL ?_) | refine Ext.trans ?_ (by assumption)))) (hE')); simp only [Act.put, List.setIfInBounds_toArray, List.set_cons_zero, List.set_cons_succ])
    | (refine wpL_call (by rfl) (fun K hK => ?_); go_simp; (first | (refine hK _ _ ?_ ?_; (focus ((repeat (first | (with_reducible exact But.refl _ _) | assumption | (with_reducible refine But.drew ?_) | (with_reducible refine But.drewL ?_) | (with_reducible refine But.setCell ?_ ?_ _; rotate_left; (focus (simp; done))) | (with_reducible refine But.setCellL ?_ ?_; rotate_left; (focus (simp; done))) | (with_reducible refine But.alloc2 ?_ ?_; rotate_left; (focus (simp [World.setCell]; done))) | (with_reducible refine But.allocL ?_ ?_ ?_; rotate_left; (focus (simp; done)); (focus (simp; done))) | (with_reducible refine But.alloc ?_ _))); done))) | (refine hK undef _ ?_ ?_; (focus ((repeat (first | (with_reducible exact But.refl _ _) | assumption | (with_reducible refine But.drew ?_) | (with_reducible refine But.drewL ?_) | (with_reducible refine But.setCell ?_ ?_ _; rotate_left; (focus (simp; done))) | (with_reducible refine But.setCellL ?_ ?_; rotate_left; (focus (simp; done))) | (with_reducible refine But.alloc2 ?_ ?_; rotate_left; (focus (simp [World.setCell]; done))) | (with_reducible refine But.allocL ?_ ?_ ?_; rotate_left; (focus (simp; done)); (focus (simp; done))) | (with_reducible refine But.alloc ?_ _))); done)))); clear hK; intro hr; replace hx := hx.trans hr; clear hr; try simp only [Act.put, List.setIfInBounds_toArray, List.set_cons_zero, List.set_cons_succ])
    | (refine wpL_call (by rfl) (fun K hK => ?_); have hcy := Ext.cell hy; have hfy := Ext.froz hy; go_simp; (first | (refine hK _ _ ?_ ?_; (focus ((repeat (first | (with_reducible exact But.refl _ _) | assumption | (with_reducible refine But.drew ?_) | (with_reducible refine But.drewL ?_) | (with_reducible refine But.setCell ?_ ?_ _; rotate_left; (focus (simp; done))) | (with_reducible refine But.setCellL ?_ ?_; rotate_left; (focus (simp; done))) | (with_reducible refine But.alloc2 ?_ ?_; rotate_left; (focus (simp [World.setCell]; done))) | (with_reducible refine But.allocL ?_ ?_ ?_; rotate_left; (focus (simp; done)); (focus (simp; done))) | (with_reducible refine But.alloc ?_ _))); done))) | (refine hK undef _ ?_ ?_; (focus ((repeat (first | (with_reducible exact But.refl _ _) | assumption | (with_reducible refine But.drew ?_) | (with_reducible refine But.drewL ?_) | (with_reducible refine But.setCell ?_ ?_ _; rotate_left; (focus (simp; done))) | (with_reducible refine But.setCellL ?_ ?_; rotate_left; (focus (simp; done))) | (with_reducible refine But.alloc2 ?_ ?_; rotate_left; (focus (simp [World.setCell]; done))) | (with_reducible refine But.allocL ?_ ?_ ?_; rotate_left; (focus (simp; done)); (focus (simp; done))) | (with_reducible refine But.alloc ?_ _))); done)))); clear hK; intro hr; replace hx := hx.trans hr; clear hr; try simp only [Act.put, List.setIfInBounds_toArray, List.set_cons_zero, List.set_cons_succ]))
  refine wpL_end ?_
  go_wp2
  refine bodyPost_ret (v := .agg #[.slice B n d, .slice B' m d']) (by simp [results, Try.results16, go_sem, hcy]) rfl ⟨B, d, B', d', rfl, ?_, ?_, ?_⟩
  · exact own_base (own_below (own_below (own_ext hB hE') (by (first | omega | (simp; done) | (simp; omega))) _) (by (first | omega | (simp; done) | (simp; omega))) _) (by (first | omega | (simp; done) | (simp; omega)))
  · exact own_base (own_below (own_below hB' (by (first | omega | (simp; done) | (simp; omega))) _) (by (first | omega | (simp; done) | (simp; omega))) _) (by (first | omega | (simp; done) | (simp; omega)))
  · refine Ext.setCell (Ext.setCell ?_ (by simp) _) (by simp) _
    (repeat (first | (with_reducible exact Ext.refl _) | assumption | (with_reducible refine Ext.alloc ?_ _) | (with_reducible refine Ext.drew ?_) | (with_reducible refine Ext.drewL ?_) | refine Ext.trans ?_ (by assumption)))

/-- the first entry that is not in use, -1 if there is none -/
def freeI (us : List Bool) : Int := if us.idxOf false < us.length then us.idxOf false else -1
theorem freeI_at (us : List Bool) (k : Nat) (h : ∀ j, j < k → us[j]? = some true) (hk : us[k]? = some false) : us.idxOf false = k := by
  induction us generalizing k with
  | nil => simp at hk
  | cons u us ih =>
    cases k with
    | zero => simp at hk; subst hk; rfl
    | succ k =>
      have h0 := h 0 (by omega)
      simp at h0
      subst h0
      rw [List.idxOf_cons]
      simp only [Bool.true_eq_false, beq_iff_eq, Bool.cond_eq_ite, if_false]
      rw [ih k (fun j hj => by simpa using h (j + 1) (by omega)) (by simpa using hk)]
theorem freeI_some (us : List Bool) (k : Nat) (h : ∀ j, j < k → us[j]? = some true) (hk : us[k]? = some false) : freeI us = k := by
  have h1 := freeI_at us k h hk
  have h2 := (List.getElem?_eq_some_iff.1 hk).1
  simp [freeI, h1, h2]
theorem freeI_none (us : List Bool) (h : ∀ j, j < us.length → us[j]? = some true) : freeI us = -1 := by
  have : false ∉ us := by
    intro hm
    obtain ⟨j, hj, he⟩ := List.getElem_of_mem hm
    have := h j hj
    rw [List.getElem?_eq_getElem hj, he] at this
    cases this
  have h2 : ¬ us.idxOf false < us.length := by rw [List.idxOf_lt_length_iff]; exact this
  simp [freeI, h2]

set_option maxHeartbeats 400000 in
theorem index_any (b o : Nat) (n c : Nat) (us : List Bool) (w : World) (hu : Rd w (some ⟨b, o, none⟩) n 1 (bools us)) (hn : n ≤ 1000000) :
    Calls Try.prog 30 #[.slice (some ⟨b, o, none⟩) n c, .bool false] w fun e w' => e = .returned (.int .i64 (freeI us)) ∧ w = w' := by
  have hul : us.length = n := by have := hu.1; simpa [bools] using this
  have Hul := Lib.hid hul
  clear hul
  go_enter Try.func30, Try.ntmps30
  go_wp2
  go_loop [8] (fun i => ∃ k : Nat, k ≤ n ∧ i = .int .i64 k ∧ ∀ j, j < k → us[j]? = some true) (fun i => n - (intOf i).toNat)
  case atStart => exact ⟨0, by omega, rfl, fun j hj => by omega⟩
  case round =>
    obtain ⟨k, hk, rfl, hd⟩ := hrel
    have Hd := Lib.hid hd
    clear hd
    by_cases hlt : k < n
    · have hdec : decide ((k : Int) < n) = true := by simp; omega
      obtain ⟨b', o', u, hA, hku, hc⟩ := hu.at_ hlt
      simp only [Option.some.injEq, Addr.mk.injEq, and_true] at hA
      obtain ⟨rfl, rfl⟩ := hA
      obtain ⟨v, hv, rfl⟩ : ∃ v, us[k]? = some v ∧ u = .bool v := by
        simp only [bools, List.getElem?_map, Option.map_eq_some_iff] at hku
        obtain ⟨v, h1, h2⟩ := hku
        exact ⟨v, h1, h2.symm⟩
      have Hv := Lib.hid hv
      clear hv hku hu
      cases v with
      | true =>
        go_wp2
        go_round
        case rel => exact ⟨k + 1, by omega, by go_num, fun j hj => by
          by_cases e : j = k
          · subst e; exact Hv.out
          · exact Hd.out j (by omega)⟩
        case measure => simp [intOf]; omega
      | false =>
        go_wp2
        go_ret
        exact ⟨ret_int (freeI_some us k Hd.out Hv.out).symm, rfl⟩
    · go_wp2
      go_ret
      exact ⟨ret_int (freeI_none us fun j hj => Hd.out j (by have := Hul.out; omega)).symm, rfl⟩
end Go.Proofs.Ytgjgnokfmjeekaa
