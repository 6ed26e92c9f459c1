/- The walks of package root's copies. Conditions: the ranges that each theorem states. -/
import Derived.Test.YtgjgnokfmjeekaaA
namespace Go.Proofs.Ytgjgnokfmjeekaa
open Go.RowKit Go.Draw

theorem Try.el27 : Elem Try.prog 27 4 (.bool false) 1 1 := ⟨Try.underlying27, by kernel_rfl, rfl, by omega⟩
theorem Try.el28 : Elem Try.prog 28 32 (.int .u64 0) 1 8 := ⟨Try.underlying28, by kernel_rfl, rfl, by omega⟩
theorem Try.el22 : Elem Try.prog 22 3 (.int .i64 0) 1 8 := ⟨Try.underlying22, by kernel_rfl, rfl, by omega⟩
theorem one_bools (us : List Bool) : ∀ u ∈ bools us, u.oneCell' = true := by
  intro u hu; obtain ⟨b, _, rfl⟩ := List.mem_map.1 hu; rfl
theorem one_words (rs : List Int) : ∀ u ∈ words rs, u.oneCell' = true := by
  intro u hu; obtain ⟨b, _, rfl⟩ := List.mem_map.1 hu; rfl

/-- a new slice that the call owns -/
def RetRow (w : World) (e : TypeId) (xs : List Value) (n : Nat) (r : Ending) (w' : World) : Prop :=
  ∃ A c, r = .returned (.slice A n c) ∧ w'.ownsRow w.heap.size e 1 (.slice A n c) n xs ∧ Ext w w'

set_option maxHeartbeats 400000 in
theorem words_any (A : Option Addr) (n c : Nat) (rs : List Int) (w : World) (hr : Rd w A n 1 (words rs)) (hn : n ≤ 1000000) :
    Calls Try.prog 34 #[.slice A n c] w fun r w' => RetRow w 32 (words rs) n r w' := by
  go_enter Try.func34, Try.ntmps34
  go_wp2_with (first | (at_builtin; refine wpList_clone rfl Try.el28 _ _ rfl rfl w.heap.size A n c (words rs) rfl hr (one_words rs) hn (by omega) (Nat.le_refl _) ?_; intro B d w1 hB hE))
  go_ret
  exact ⟨B, d, rfl, hB, hE⟩

/-- a new table that the call owns -/
def RetTab (w : World) (us : List Bool) (rs : List Int) (n m : Nat) (r : Ending) (w' : World) : Prop :=
  ∃ A c B d, r = .returned (.agg #[.slice A n c, .slice B m d]) ∧ w'.ownsRow w.heap.size 4 1 (.slice A n c) n (bools us) ∧ w'.ownsRow w.heap.size 32 1 (.slice B m d) m (words rs) ∧ Ext w w'

set_option maxHeartbeats 1000000 in
theorem roots_any (A A' : Option Addr) (n m c c' : Nat) (us : List Bool) (rs : List Int) (w : World) (hu : Rd w A n 1 (bools us)) (hr : Rd w A' m 1 (words rs)) (hn : n ≤ 1000000) (hm : m ≤ 1000000) :
    Calls Try.prog 31 #[.agg #[.slice A n c, .slice A' m c']] w fun r w' => RetTab w us rs n m r w' := by
  go_enter Try.func31, Try.ntmps31
  go_wp2
  refine wp_region_but [w.heap.size + 1] [(true, 0), (true, 1), (true, 3), (true, 4), (false, 2), (false, 5), (true, 6), (false, 7)] Try.mixed (by kernel_rfl) (by simp only [pick, List.filterMap_cons, List.filterMap_nil, List.getElem?_toArray, List.getElem?_cons_succ, List.getElem?_cons_zero, Option.map_some]; rfl) ?_
  intro hx hy
  repeat (first
    | (refine wpL_takeB hx (v := ?_) (by rfl) (fun _ hc => ?_) ?_
       rotate_left
       focus (go_simp; (try go_ints); exact rfl)
       simp only [Act.put, List.setIfInBounds_toArray, List.set_cons_zero, List.set_cons_succ])
    | (refine wpL_skip (by rfl) ?_; simp only [Act.put, List.setIfInBounds_toArray, List.set_cons_zero, List.set_cons_succ])
    | (refine wpL_call (by rfl) (fun K hK => ?_); refine wp_clone Try.el27 _ _ rfl rfl _ A n c (bools us) rfl (hu.ext (by (repeat (first | (with_reducible exact Ext.refl _) | assumption | (with_reducible refine Ext.alloc ?_ _) | (with_reducible refine Ext.drew ?_) | (with_reducible refine Ext.drewL ?_) | refine Ext.trans ?_ (by assumption))))) (one_bools us) hn (by omega) (Nat.le_refl _) ?_; intro B d w1 hB hE; have hz := hE.size_le; simp at hz; refine hK _ _ ((hE).but _) ?_; clear hK; intro hr; replace hx := hx.trans hr; clear hr; replace hy := Ext.trans hy (Ext.trans (by (repeat (first | (with_reducible exact Ext.refl _) | assumption | (with_reducible refine Ext.alloc ?_ _) | (with_reducible refine Ext.drew ?_) | (with_reducible refine Ext.drewL ?_) | refine Ext.trans ?_ (by assumption)))) (hE)); simp only [Act.put, List.setIfInBounds_toArray, List.set_cons_zero, List.set_cons_succ])
    | (refine wpL_call (by rfl) (fun K hK => ?_); go_simp; go_at_call 34; refine (words_any _ _ _ rs _ (hr.ext (by (repeat (first | (with_reducible exact Ext.refl _) | assumption | (with_reducible refine Ext.alloc ?_ _) | (with_reducible refine Ext.drew ?_) | (with_reducible refine Ext.drewL ?_) | refine Ext.trans ?_ (by assumption))))) hm).mono ?_; rintro e w1 ⟨B', d', rfl, hB', hE'⟩; refine hK _ _ ((hE').but _) ?_; clear hK; intro hr; replace hx := hx.trans hr; clear hr; replace hy := Ext.trans hy (Ext.trans (by (repeat (first | (with_reducible exact Ext.refl _) | assumption | (with_reducible refine Ext.alloc ?_ _) | (with_reducible refine Ext.drew ?_) | (with_reducible refine Ext.drewL ?_) | refine Ext.trans ?_ (by assumption)))) (hE')); simp only [Act.put, List.setIfInBounds_toArray, List.set_cons_zero, List.set_cons_succ])
    | (refine wpL_call (by rfl) (fun K hK => ?_); go_simp; (first | (refine hK _ _ ?_ ?_; (focus ((repeat (first | (with_reducible exact But.refl _ _) | assumption | (with_reducible refine But.drew ?_) | (with_reducible refine But.drewL ?_) | (with_reducible refine But.setCell ?_ ?_ _; rotate_left; (focus (simp; done))) | (with_reducible refine But.setCellL ?_ ?_; rotate_left; (focus (simp; done))) | (with_reducible refine But.alloc2 ?_ ?_; rotate_left; (focus (simp [World.setCell]; done))) | (with_reducible refine But.allocL ?_ ?_ ?_; rotate_left; (focus (simp; done)); (focus (simp; done))) | (with_reducible refine But.alloc ?_ _))); done))) | (refine hK undef _ ?_ ?_; (focus ((repeat (first | (with_reducible exact But.refl _ _) | assumption | (with_reducible refine But.drew ?_) | (with_reducible refine But.drewL ?_) | (with_reducible refine But.setCell ?_ ?_ _; rotate_left; (focus (simp; done))) | (with_reducible refine But.setCellL ?_ ?_; rotate_left; (focus (simp; done))) | (with_reducible refine But.alloc2 ?_ ?_; rotate_left; (focus (simp [World.setCell]; done))) | (with_reducible refine But.allocL ?_ ?_ ?_; rotate_left; (focus (simp; done)); (focus (simp; done))) | (with_reducible refine But.alloc ?_ _))); done)))); clear hK; intro hr; replace hx := hx.trans hr; clear hr; try simp only [Act.put, List.setIfInBounds_toArray, List.set_cons_zero, List.set_cons_succ])
    | (refine wpL_call (by rfl) (fun K hK => ?_); have hcy := Ext.cell hy; have hfy := Ext.froz hy; go_simp; (first | (refine hK _ _ ?_ ?_; (focus ((repeat (first | (with_reducible exact But.refl _ _) | assumption | (with_reducible refine But.drew ?_) | (with_reducible refine But.drewL ?_) | (with_reducible refine But.setCell ?_ ?_ _; rotate_left; (focus (simp; done))) | (with_reducible refine But.setCellL ?_ ?_; rotate_left; (focus (simp; done))) | (with_reducible refine But.alloc2 ?_ ?_; rotate_left; (focus (simp [World.setCell]; done))) | (with_reducible refine But.allocL ?_ ?_ ?_; rotate_left; (focus (simp; done)); (focus (simp; done))) | (with_reducible refine But.alloc ?_ _))); done))) | (refine hK undef _ ?_ ?_; (focus ((repeat (first | (with_reducible exact But.refl _ _) | assumption | (with_reducible refine But.drew ?_) | (with_reducible refine But.drewL ?_) | (with_reducible refine But.setCell ?_ ?_ _; rotate_left; (focus (simp; done))) | (with_reducible refine But.setCellL ?_ ?_; rotate_left; (focus (simp; done))) | (with_reducible refine But.alloc2 ?_ ?_; rotate_left; (focus (simp [World.setCell]; done))) | (with_reducible refine But.allocL ?_ ?_ ?_; rotate_left; (focus (simp; done)); (focus (simp; done))) | (with_reducible refine But.alloc ?_ _))); done)))); clear hK; intro hr; replace hx := hx.trans hr; clear hr; try simp only [Act.put, List.setIfInBounds_toArray, List.set_cons_zero, List.set_cons_succ]))
  refine wpL_end ?_
  go_wp2
  refine bodyPost_ret (v := .agg #[.slice B n d, .slice B' m d']) (by simp [results, Try.results31, go_sem, hcy]) rfl ⟨B, d, B', d', rfl, ?_, ?_, ?_⟩
  · exact own_base (own_below (own_below (own_ext hB hE') (by (first | omega | (simp; done) | (simp; omega))) _) (by (first | omega | (simp; done) | (simp; omega))) _) (by (first | omega | (simp; done) | (simp; omega)))
  · exact own_base (own_below (own_below hB' (by (first | omega | (simp; done) | (simp; omega))) _) (by (first | omega | (simp; done) | (simp; omega))) _) (by (first | omega | (simp; done) | (simp; omega)))
  · refine Ext.setCell (Ext.setCell ?_ (by simp) _) (by simp) _
    (repeat (first | (with_reducible exact Ext.refl _) | assumption | (with_reducible refine Ext.alloc ?_ _) | (with_reducible refine Ext.drew ?_) | (with_reducible refine Ext.drewL ?_) | refine Ext.trans ?_ (by assumption)))
end Go.Proofs.Ytgjgnokfmjeekaa
