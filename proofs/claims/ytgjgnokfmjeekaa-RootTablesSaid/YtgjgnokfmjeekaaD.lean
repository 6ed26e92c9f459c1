/- The walks of root.Take and of its reference. Conditions: the ranges that each theorem states. -/
import Derived.Test.YtgjgnokfmjeekaaC
namespace Go.Proofs.Ytgjgnokfmjeekaa
open Go.RowKit Go.Draw

/-- what taking a handle comes to: the new table, the handle, the error -/
def takeT (us : List Bool) (rs : List Int) (v : Int) : List Bool × List Int × Int × Int :=
  if validT us rs = true then
    if us.idxOf false < us.length then (us.set (us.idxOf false) true, rs.set (us.idxOf false) v, (us.idxOf false : Int) + 1, 0) else ([], [], 0, 15)
  else ([], [], 0, 1)

/-- a table that the call owns, a handle, an error -/
def RetTake (w : World) (us : List Bool) (rs : List Int) (h er : Int) (r : Ending) (w' : World) : Prop :=
  ∃ A c B d, r = .returned (.tuple #[.agg #[.slice A us.length c, .slice B rs.length d], .int .i64 h, .int .i64 er]) ∧ w'.ownsRow w.heap.size 4 1 (.slice A us.length c) us.length (bools us) ∧ w'.ownsRow w.heap.size 32 1 (.slice B rs.length d) rs.length (words rs) ∧ Ext w w'
theorem RetTake.none_ {w w' : World} {h er : Int} {r : Ending} (hr : r = .returned (.tuple #[.agg #[.slice none 0 0, .slice none 0 0], .int .i64 h, .int .i64 er])) (he : Ext w w') : RetTake w [] [] h er r w' :=
  ⟨none, 0, none, 0, hr, own_nil _ _ _ _, own_nil _ _ _ _, he⟩

theorem bools_set (us : List Bool) (i : Nat) (b : Bool) : (bools us).set i (.bool b) = bools (us.set i b) := by simp [bools, List.map_set]
theorem words_set (rs : List Int) (i : Nat) (v : Int) : (words rs).set i (.int .u64 v) = words (rs.set i v) := by simp [words, List.map_set]
theorem valid_len {us : List Bool} {rs : List Int} (h : validT us rs = true) : us.length = 32 ∧ rs.length = 32 := by
  simp only [validT, Bool.and_eq_true, decide_eq_true_eq] at h
  exact h.1

set_option maxHeartbeats 1000000 in
theorem take_any (A A' : Option Addr) (n m c c' : Nat) (us : List Bool) (rs : List Int) (v : Int) (w : World) (hu : Rd w A n 1 (bools us)) (hr : Rd w A' m 1 (words rs)) :
    Calls Try.prog 12 #[.agg #[.slice A n c, .slice A' m c'], .int .u64 v] w fun r w' => RetTake w (takeT us rs v).1 (takeT us rs v).2.1 (takeT us rs v).2.2.1 (takeT us rs v).2.2.2 r w' := by
  have hul : us.length = n := by have := hu.1; simpa [bools] using this
  have hrl : rs.length = m := by have := hr.1; simpa [words] using this
  by_cases hv : validT us rs = true
  · obtain ⟨h1, h2⟩ := valid_len hv
    obtain rfl : n = 32 := by omega
    obtain rfl : m = 32 := by omega
    obtain ⟨b, o, rfl, _⟩ := hu.2 (by omega)
    obtain ⟨b', o', rfl, _⟩ := hr.2 (by omega)
    clear h1 h2
    by_cases hf : us.idxOf false < us.length
    · have ht : takeT us rs v = (us.set (us.idxOf false) true, rs.set (us.idxOf false) v, (us.idxOf false : Int) + 1, 0) := by simp [takeT, hv, hf]
      have hi : freeI us = (us.idxOf false : Int) := by simp [freeI, hf]
      rw [ht]
      generalize us.idxOf false = i at *
      have Hul := Lib.hid hul
      have Hrl := Lib.hid hrl
      have hi32 : i < 32 := by omega
      have hgi : (bools us)[i]? = some (.bool (us[i]'(by omega))) := by simp [bools]
      have hgi' : (words rs)[i]? = some (.int .u64 (rs[i]'(by omega))) := by simp [words]
      have hdi : decide ((i : Int) < 0) = false := by simp
      have hib : (i : Int) < 32 := by omega
      generalize us[i]'(by omega) = ui at hgi
      generalize rs[i]'(by omega) = ri at hgi'
      clear hul hrl hf ht
      go_enter Try.func12, Try.ntmps12
      go_wp2_with (first | (go_at_call 18; refine (valid_any _ _ _ _ _ _ us rs _ (hu.ext (by (repeat (first | (with_reducible exact Ext.refl _) | assumption | (with_reducible refine Ext.alloc ?_ _) | (with_reducible refine Ext.drew ?_) | (with_reducible refine Ext.drewL ?_) | refine Ext.trans ?_ (by assumption))))) (hr.ext (by (repeat (first | (with_reducible exact Ext.refl _) | assumption | (with_reducible refine Ext.alloc ?_ _) | (with_reducible refine Ext.drew ?_) | (with_reducible refine Ext.drewL ?_) | refine Ext.trans ?_ (by assumption)))))).mono ?_; rintro e w1 ⟨rfl, hE⟩; have hcV := Ext.cell hE; have hfV := Ext.froz hE; have hzV := hE.size_le; simp at hzV) | (go_at_call 30; refine (index_any b o _ _ us _ (hu.ext (by (repeat (first | (with_reducible exact Ext.refl _) | assumption | (with_reducible refine Ext.alloc ?_ _) | (with_reducible refine Ext.drew ?_) | (with_reducible refine Ext.drewL ?_) | refine Ext.trans ?_ (by assumption))))) (by omega)).mono ?_; rintro e w1 ⟨rfl, rfl⟩) | (go_at_call 31; refine (roots_any _ _ _ _ _ _ us rs _ (hu.ext (by (repeat (first | (with_reducible exact Ext.refl _) | assumption | (with_reducible refine Ext.alloc ?_ _) | (with_reducible refine Ext.drew ?_) | (with_reducible refine Ext.drewL ?_) | refine Ext.trans ?_ (by assumption))))) (hr.ext (by (repeat (first | (with_reducible exact Ext.refl _) | assumption | (with_reducible refine Ext.alloc ?_ _) | (with_reducible refine Ext.drew ?_) | (with_reducible refine Ext.drewL ?_) | refine Ext.trans ?_ (by assumption))))) (by omega) (by omega)).mono ?_; rintro e w1 ⟨B, d, B', d', rfl, hB, hB', hE2⟩; have hcW := Ext.cell hE2; have hfW := Ext.froz hE2; have hzW := hE2.size_le; obtain ⟨g, rfl, hg1, hg2⟩ := own_form hB (by omega); obtain ⟨g', rfl, hg1', hg2'⟩ := own_form hB' (by omega); have hgg := own_ne hB hB' (by decide); obtain ⟨hcg, hfg⟩ := own_cells hB; obtain ⟨hcg', hfg'⟩ := own_cells hB'; have hq := hcg i _ hgi; have hq' := hcg' i _ hgi'; clear hcg hcg'))
      have hb4 : Blk w1 (w.heap.size + 1) 30 #[.slice none 0 0, .slice none 0 0] := by (repeat (first | assumption | (with_reducible refine Blk.new ?_; (focus (simp; done))) | (with_reducible exact Blk.new rfl) | (with_reducible refine Blk.drew ?_) | (with_reducible refine Blk.alloc ?_ _) | refine Blk.ext ?_ (by assumption)))
      have hc4 := hb4.cell
      have hf4 := hb4.froz
      have hn3 : w.heap.size + 1 ≠ g := by omega
      have hn4 : w.heap.size + 1 ≠ g' := by omega
      have hn5 : w.heap.size + 1 < w1.heap.size := by omega
      have hn1 : w1.heap.size ≠ g := by omega
      have hn2 : w1.heap.size ≠ g' := by omega
      have hgg' : g' ≠ g := fun e => hgg e.symm
      refine wp_region_but [g, g'] [(true, 0), (true, 1), (true, 2), (true, 3), (true, 4), (true, 5), (true, 6), (true, 7), (false, 8), (true, 9), (false, 10)] Try.mixed (by kernel_rfl) (by simp only [pick, List.filterMap_cons, List.filterMap_nil, List.getElem?_toArray, List.getElem?_cons_succ, List.getElem?_cons_zero, Option.map_some]; rfl) ?_
      intro hx hy
      repeat (first
        | (refine wpL_takeB hx (v := ?_) (by rfl) (fun _ hc => ?_) ?_
           rotate_left
           focus (go_simp; (try go_ints); exact rfl)
           simp only [Act.put, List.setIfInBounds_toArray, List.set_cons_zero, List.set_cons_succ])
        | (refine wpL_skip (by rfl) ?_; simp only [Act.put, List.setIfInBounds_toArray, List.set_cons_zero, List.set_cons_succ])
        | (refine wpL_call (by rfl) (fun K hK => ?_); go_simp; (first | (refine hK _ _ ?_ ?_; (focus ((repeat (first | (with_reducible exact But.refl _ _) | assumption | (with_reducible refine But.drew ?_) | (with_reducible refine But.drewL ?_) | (with_reducible refine But.setCell ?_ ?_ _; rotate_left; (focus (simp; done))) | (with_reducible refine But.setCellL ?_ ?_; rotate_left; (focus (simp; done))) | (with_reducible refine But.alloc2 ?_ ?_; rotate_left; (focus (simp [World.setCell]; done))) | (with_reducible refine But.allocL ?_ ?_ ?_; rotate_left; (focus (simp; done)); (focus (simp; done))) | (with_reducible refine But.alloc ?_ _))); done))) | (refine hK undef _ ?_ ?_; (focus ((repeat (first | (with_reducible exact But.refl _ _) | assumption | (with_reducible refine But.drew ?_) | (with_reducible refine But.drewL ?_) | (with_reducible refine But.setCell ?_ ?_ _; rotate_left; (focus (simp; done))) | (with_reducible refine But.setCellL ?_ ?_; rotate_left; (focus (simp; done))) | (with_reducible refine But.alloc2 ?_ ?_; rotate_left; (focus (simp [World.setCell]; done))) | (with_reducible refine But.allocL ?_ ?_ ?_; rotate_left; (focus (simp; done)); (focus (simp; done))) | (with_reducible refine But.alloc ?_ _))); done)))); clear hK; intro hr; replace hx := hx.trans hr; clear hr; try simp only [Act.put, List.setIfInBounds_toArray, List.set_cons_zero, List.set_cons_succ])
        | (refine wpL_call (by rfl) (fun K hK => ?_); have hcy := Ext.cell hy; have hfy := Ext.froz hy; go_simp; (first | (refine hK _ _ ?_ ?_; (focus ((repeat (first | (with_reducible exact But.refl _ _) | assumption | (with_reducible refine But.drew ?_) | (with_reducible refine But.drewL ?_) | (with_reducible refine But.setCell ?_ ?_ _; rotate_left; (focus (simp; done))) | (with_reducible refine But.setCellL ?_ ?_; rotate_left; (focus (simp; done))) | (with_reducible refine But.alloc2 ?_ ?_; rotate_left; (focus (simp [World.setCell]; done))) | (with_reducible refine But.allocL ?_ ?_ ?_; rotate_left; (focus (simp; done)); (focus (simp; done))) | (with_reducible refine But.alloc ?_ _))); done))) | (refine hK undef _ ?_ ?_; (focus ((repeat (first | (with_reducible exact But.refl _ _) | assumption | (with_reducible refine But.drew ?_) | (with_reducible refine But.drewL ?_) | (with_reducible refine But.setCell ?_ ?_ _; rotate_left; (focus (simp; done))) | (with_reducible refine But.setCellL ?_ ?_; rotate_left; (focus (simp; done))) | (with_reducible refine But.alloc2 ?_ ?_; rotate_left; (focus (simp [World.setCell]; done))) | (with_reducible refine But.allocL ?_ ?_ ?_; rotate_left; (focus (simp; done)); (focus (simp; done))) | (with_reducible refine But.alloc ?_ _))); done)))); clear hK; intro hr; replace hx := hx.trans hr; clear hr; try simp only [Act.put, List.setIfInBounds_toArray, List.set_cons_zero, List.set_cons_succ]))
      refine wpL_end ?_
      go_wp2
      have e1 : (us.set i true).length = 32 := by simp [Hul.out]
      have e2 : (rs.set i v).length = 32 := by simp [Hrl.out]
      have E1 := Lib.hid e1
      have E2 := Lib.hid e2
      clear e1 e2
      refine bodyPost_ret (v := .tuple #[.agg #[.slice (some ⟨g, 0, none⟩) 32 d, .slice (some ⟨g', 0, none⟩) 32 d'], .int .i64 ((i : Int) + 1), .int .i64 0]) (by simp [results, Try.results12, go_sem, *]) rfl ⟨some ⟨g, 0, none⟩, d, some ⟨g', 0, none⟩, d', by rw [E1.out, E2.out], ?_, ?_, ?_⟩
      · rw [E1.out, ← bools_set]
        exact own_drew (own_alloc (own_other (own_other (own_other (own_set (own_base hB (by omega)) i _) hgg _) (Ne.symm hn3) _) (Ne.symm hn3) _) _)
      · rw [E2.out, ← words_set]
        exact own_drew (own_alloc (own_other (own_other (own_set (own_other (own_base hB' (by omega)) hgg' _) i _) (Ne.symm hn4) _) (Ne.symm hn4) _) _)
      · refine Ext.drew (Ext.alloc (Ext.setCell (Ext.setCell (Ext.setCell (Ext.setCell ?_ ?_ _) ?_ _) ?_ _) ?_ _) _)
        · (repeat (first | (with_reducible exact Ext.refl _) | assumption | (with_reducible refine Ext.alloc ?_ _) | (with_reducible refine Ext.drew ?_) | (with_reducible refine Ext.drewL ?_) | refine Ext.trans ?_ (by assumption)))
        · show w.heap.size ≤ g; omega
        · show w.heap.size ≤ g'; omega
        · show w.heap.size ≤ w.heap.size + 1; omega
        · show w.heap.size ≤ w.heap.size + 1; omega
    · have ht : takeT us rs v = ([], [], 0, 15) := by simp [takeT, hv, hf]
      have hi : freeI us = -1 := by simp [freeI, hf]
      rw [ht]
      clear hul hrl hf ht
      go_enter Try.func12, Try.ntmps12
      go_wp2_with (first | (go_at_call 18; refine (valid_any _ _ _ _ _ _ us rs _ (hu.ext (by (repeat (first | (with_reducible exact Ext.refl _) | assumption | (with_reducible refine Ext.alloc ?_ _) | (with_reducible refine Ext.drew ?_) | (with_reducible refine Ext.drewL ?_) | refine Ext.trans ?_ (by assumption))))) (hr.ext (by (repeat (first | (with_reducible exact Ext.refl _) | assumption | (with_reducible refine Ext.alloc ?_ _) | (with_reducible refine Ext.drew ?_) | (with_reducible refine Ext.drewL ?_) | refine Ext.trans ?_ (by assumption)))))).mono ?_; rintro e w1 ⟨rfl, hE⟩; have hcV := Ext.cell hE; have hfV := Ext.froz hE; have hzV := hE.size_le; simp at hzV) | (go_at_call 30; refine (index_any b o _ _ us _ (hu.ext (by (repeat (first | (with_reducible exact Ext.refl _) | assumption | (with_reducible refine Ext.alloc ?_ _) | (with_reducible refine Ext.drew ?_) | (with_reducible refine Ext.drewL ?_) | refine Ext.trans ?_ (by assumption))))) (by omega)).mono ?_; rintro e w1 ⟨rfl, rfl⟩) | (go_at_call 31; refine (roots_any _ _ _ _ _ _ us rs _ (hu.ext (by (repeat (first | (with_reducible exact Ext.refl _) | assumption | (with_reducible refine Ext.alloc ?_ _) | (with_reducible refine Ext.drew ?_) | (with_reducible refine Ext.drewL ?_) | refine Ext.trans ?_ (by assumption))))) (hr.ext (by (repeat (first | (with_reducible exact Ext.refl _) | assumption | (with_reducible refine Ext.alloc ?_ _) | (with_reducible refine Ext.drew ?_) | (with_reducible refine Ext.drewL ?_) | refine Ext.trans ?_ (by assumption))))) (by omega) (by omega)).mono ?_; rintro e w1 ⟨B, d, B', d', rfl, hB, hB', hE2⟩; have hcW := Ext.cell hE2; have hfW := Ext.froz hE2; have hzW := hE2.size_le; obtain ⟨g, rfl, hg1, hg2⟩ := own_form hB (by omega); obtain ⟨g', rfl, hg1', hg2'⟩ := own_form hB' (by omega); have hgg := own_ne hB hB' (by decide); obtain ⟨hcg, hfg⟩ := own_cells hB; obtain ⟨hcg', hfg'⟩ := own_cells hB'; have hq := hcg i _ hgi; have hq' := hcg' i _ hgi'; clear hcg hcg'))
      refine bodyPost_ret (v := .tuple #[.agg #[.slice none 0 0, .slice none 0 0], .int .i64 0, .int .i64 15]) (by simp [results, Try.results12, go_sem, *]) rfl (RetTake.none_ rfl ?_)
      repeat (refine Ext.setCell ?_ (Nat.le_add_right _ _) _)
      (repeat (first | (with_reducible exact Ext.refl _) | assumption | (with_reducible refine Ext.alloc ?_ _) | (with_reducible refine Ext.drew ?_) | (with_reducible refine Ext.drewL ?_) | refine Ext.trans ?_ (by assumption)))
  · have hv' : validT us rs = false := by simpa using hv
    have ht : takeT us rs v = ([], [], 0, 1) := by simp [takeT, hv']
    rw [ht]
    clear hul hrl ht hv
    go_enter Try.func12, Try.ntmps12
    go_wp2_with (first | (go_at_call 18; refine (valid_any _ _ _ _ _ _ us rs _ (hu.ext (by (repeat (first | (with_reducible exact Ext.refl _) | assumption | (with_reducible refine Ext.alloc ?_ _) | (with_reducible refine Ext.drew ?_) | (with_reducible refine Ext.drewL ?_) | refine Ext.trans ?_ (by assumption))))) (hr.ext (by (repeat (first | (with_reducible exact Ext.refl _) | assumption | (with_reducible refine Ext.alloc ?_ _) | (with_reducible refine Ext.drew ?_) | (with_reducible refine Ext.drewL ?_) | refine Ext.trans ?_ (by assumption)))))).mono ?_; rintro e w1 ⟨rfl, hE⟩; have hcV := Ext.cell hE; have hfV := Ext.froz hE; have hzV := hE.size_le; simp at hzV) | (go_at_call 30; refine (index_any b o _ _ us _ (hu.ext (by (repeat (first | (with_reducible exact Ext.refl _) | assumption | (with_reducible refine Ext.alloc ?_ _) | (with_reducible refine Ext.drew ?_) | (with_reducible refine Ext.drewL ?_) | refine Ext.trans ?_ (by assumption))))) (by omega)).mono ?_; rintro e w1 ⟨rfl, rfl⟩) | (go_at_call 31; refine (roots_any _ _ _ _ _ _ us rs _ (hu.ext (by (repeat (first | (with_reducible exact Ext.refl _) | assumption | (with_reducible refine Ext.alloc ?_ _) | (with_reducible refine Ext.drew ?_) | (with_reducible refine Ext.drewL ?_) | refine Ext.trans ?_ (by assumption))))) (hr.ext (by (repeat (first | (with_reducible exact Ext.refl _) | assumption | (with_reducible refine Ext.alloc ?_ _) | (with_reducible refine Ext.drew ?_) | (with_reducible refine Ext.drewL ?_) | refine Ext.trans ?_ (by assumption))))) (by omega) (by omega)).mono ?_; rintro e w1 ⟨B, d, B', d', rfl, hB, hB', hE2⟩; have hcW := Ext.cell hE2; have hfW := Ext.froz hE2; have hzW := hE2.size_le; obtain ⟨g, rfl, hg1, hg2⟩ := own_form hB (by omega); obtain ⟨g', rfl, hg1', hg2'⟩ := own_form hB' (by omega); have hgg := own_ne hB hB' (by decide); obtain ⟨hcg, hfg⟩ := own_cells hB; obtain ⟨hcg', hfg'⟩ := own_cells hB'; have hq := hcg i _ hgi; have hq' := hcg' i _ hgi'; clear hcg hcg'))
    refine bodyPost_ret (v := .tuple #[.agg #[.slice none 0 0, .slice none 0 0], .int .i64 0, .int .i64 1]) (by simp [results, Try.results12, go_sem, *]) rfl (RetTake.none_ rfl ?_)
    repeat (refine Ext.setCell ?_ (Nat.le_add_right _ _) _)
    (repeat (first | (with_reducible exact Ext.refl _) | assumption | (with_reducible refine Ext.alloc ?_ _) | (with_reducible refine Ext.drew ?_) | (with_reducible refine Ext.drewL ?_) | refine Ext.trans ?_ (by assumption)))
end Go.Proofs.Ytgjgnokfmjeekaa
