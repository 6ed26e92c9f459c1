/- The walks of root.Drop, root.Set, root.New and of their references. Conditions: the ranges that each theorem states. -/
import Derived.Test.YtgjgnokfmjeekaaF
namespace Go.Proofs.Ytgjgnokfmjeekaa
open Go.RowKit Go.Draw

/-- a table that the call owns, an error -/
def RetEdit (w : World) (us : List Bool) (rs : List Int) (er : Int) (r : Ending) (w' : World) : Prop :=
  ∃ A c B d, r = .returned (.tuple #[.agg #[.slice A us.length c, .slice B rs.length d], .int .i64 er]) ∧ w'.ownsRow w.heap.size 4 1 (.slice A us.length c) us.length (bools us) ∧ w'.ownsRow w.heap.size 32 1 (.slice B rs.length d) rs.length (words rs) ∧ Ext w w'
theorem RetEdit.none_ {w w' : World} {er : Int} {r : Ending} (hr : r = .returned (.tuple #[.agg #[.slice none 0 0, .slice none 0 0], .int .i64 er])) (he : Ext w w') : RetEdit w [] [] er r w' :=
  ⟨none, 0, none, 0, hr, own_nil _ _ _ _, own_nil _ _ _ _, he⟩
def dropT (us : List Bool) (rs : List Int) (h : Int) : List Bool × List Int × Int :=
  if checkT us rs h = 0 then (us.set (h - 1).toNat false, rs.set (h - 1).toNat 0, 0) else ([], [], checkT us rs h)
def setT (us : List Bool) (rs : List Int) (h v : Int) : List Bool × List Int × Int :=
  if checkT us rs h = 0 then (us, rs.set (h - 1).toNat v, 0) else ([], [], checkT us rs h)

set_option maxHeartbeats 1000000 in
theorem drop_any (A A' : Option Addr) (n m c c' : Nat) (us : List Bool) (rs : List Int) (h : Int) (w : World) (hu : Rd w A n 1 (bools us)) (hr : Rd w A' m 1 (words rs)) :
    Calls Try.prog 13 #[.agg #[.slice A n c, .slice A' m c'], .int .i64 h] w fun r w' => RetEdit w (dropT us rs h).1 (dropT us rs h).2.1 (dropT us rs h).2.2 r w' := by
  by_cases hc : checkT us rs h = 0
  · obtain ⟨hv, i, hk, rfl, hku⟩ := check_zero hc
    obtain ⟨h1, h2⟩ := valid_len hv
    have hul : us.length = n := by have := hu.1; simpa [bools] using this
    have hrl : rs.length = m := by have := hr.1; simpa [words] using this
    obtain rfl : n = 32 := by omega
    obtain rfl : m = 32 := by omega
    have e0 : ((i : Int) + 1 - 1).toNat = i := by omega
    have ht : dropT us rs ((i : Int) + 1) = (us.set i false, rs.set i 0, 0) := by simp only [dropT, hc, if_true, e0]
    rw [ht]
    have hgi : (bools us)[i]? = some (.bool (us[i]'(by omega))) := by simp [bools]
    have hgi' : (words rs)[i]? = some (.int .u64 (rs[i]'(by omega))) := by simp [words]
    generalize us[i]'(by omega) = ui at hgi
    generalize rs[i]'(by omega) = ri at hgi'
    have Hul := Lib.hid hul
    have Hrl := Lib.hid hrl
    clear hul hrl ht e0 hku h1 h2 hv
    have hib : (i : Int) < 32 := by omega
    have b1 : (i : Int) + 1 - 1 = i := by omega
    go_enter Try.func13, Try.ntmps13
    go_wp2_with (first | (go_at_call 32; refine (check_any _ _ _ _ _ _ us rs _ _ (hu.ext (by (repeat (first | (with_reducible exact Ext.refl _) | assumption | (with_reducible refine Ext.alloc ?_ _) | (with_reducible refine Ext.drew ?_) | (with_reducible refine Ext.drewL ?_) | refine Ext.trans ?_ (by assumption))))) (hr.ext (by (repeat (first | (with_reducible exact Ext.refl _) | assumption | (with_reducible refine Ext.alloc ?_ _) | (with_reducible refine Ext.drew ?_) | (with_reducible refine Ext.drewL ?_) | refine Ext.trans ?_ (by assumption)))))).mono ?_; rintro e w1 ⟨rfl, hE⟩; have hcV := Ext.cell hE; have hfV := Ext.froz hE; have hzV := hE.size_le; simp at hzV) | (go_at_call 31; refine (roots_any _ _ _ _ _ _ us rs _ (hu.ext (by (repeat (first | (with_reducible exact Ext.refl _) | assumption | (with_reducible refine Ext.alloc ?_ _) | (with_reducible refine Ext.drew ?_) | (with_reducible refine Ext.drewL ?_) | refine Ext.trans ?_ (by assumption))))) (hr.ext (by (repeat (first | (with_reducible exact Ext.refl _) | assumption | (with_reducible refine Ext.alloc ?_ _) | (with_reducible refine Ext.drew ?_) | (with_reducible refine Ext.drewL ?_) | refine Ext.trans ?_ (by assumption))))) (by omega) (by omega)).mono ?_; rintro e w1 ⟨B, d, B', d', rfl, hB, hB', hE2⟩; have hcW := Ext.cell hE2; have hfW := Ext.froz hE2; have hzW := hE2.size_le; obtain ⟨g, rfl, hg1, hg2⟩ := own_form hB (by omega); obtain ⟨g', rfl, hg1', hg2'⟩ := own_form hB' (by omega); have hgg := own_ne hB hB' (by decide); obtain ⟨hcg, hfg⟩ := own_cells hB; obtain ⟨hcg', hfg'⟩ := own_cells hB'; have hq := hcg i _ hgi; have hq' := hcg' i _ hgi'; clear hcg hcg'))
    have hb4 : Blk w1 (w.heap.size + 1) 30 #[.slice none 0 0, .slice none 0 0] := by (repeat (first | assumption | (with_reducible refine Blk.new ?_; (focus (simp; done))) | (with_reducible exact Blk.new rfl) | (with_reducible refine Blk.drew ?_) | (with_reducible refine Blk.alloc ?_ _) | refine Blk.ext ?_ (by assumption)))
    have hc4 := hb4.cell
    have hf4 := hb4.froz
    have hn3 : w.heap.size + 1 ≠ g := by omega
    have hn4 : w.heap.size + 1 ≠ g' := by omega
    have hn5 : w.heap.size + 1 < w1.heap.size := by omega
    have hn1 : w1.heap.size ≠ g := by omega
    have hn2 : w1.heap.size ≠ g' := by omega
    have hgg' : g' ≠ g := fun e => hgg e.symm
    refine wp_region_but [g, g'] [(true, 0), (true, 1), (true, 2), (true, 3), (true, 4), (true, 5), (true, 6), (true, 7), (true, 8), (false, 9), (true, 10), (false, 11)] Try.mixed (by kernel_rfl) (by simp only [pick, List.filterMap_cons, List.filterMap_nil, List.getElem?_toArray, List.getElem?_cons_succ, List.getElem?_cons_zero, Option.map_some]; rfl) ?_
    intro hx hy
    repeat (first
      | (refine wpL_takeB hx (v := ?_) (by rfl) (fun _ hc => ?_) ?_
         rotate_left
         focus (go_simp; (try go_ints); exact rfl)
         simp only [Act.put, List.setIfInBounds_toArray, List.set_cons_zero, List.set_cons_succ])
      | (refine wpL_skip (by rfl) ?_; simp only [Act.put, List.setIfInBounds_toArray, List.set_cons_zero, List.set_cons_succ])
      | (refine wpL_call (by rfl) (fun K hK => ?_); go_simp; (first | (refine hK _ _ ?_ ?_; (focus ((repeat (first | (with_reducible exact But.refl _ _) | assumption | (with_reducible refine But.drew ?_) | (with_reducible refine But.drewL ?_) | (with_reducible refine But.setCell ?_ ?_ _; rotate_left; (focus (simp; done))) | (with_reducible refine But.setCellL ?_ ?_; rotate_left; (focus (simp; done))) | (with_reducible refine But.alloc2 ?_ ?_; rotate_left; (focus (simp [World.setCell]; done))) | (with_reducible refine But.allocL ?_ ?_ ?_; rotate_left; (focus (simp; done)); (focus (simp; done))) | (with_reducible refine But.alloc ?_ _))); done))) | (refine hK undef _ ?_ ?_; (focus ((repeat (first | (with_reducible exact But.refl _ _) | assumption | (with_reducible refine But.drew ?_) | (with_reducible refine But.drewL ?_) | (with_reducible refine But.setCell ?_ ?_ _; rotate_left; (focus (simp; done))) | (with_reducible refine But.setCellL ?_ ?_; rotate_left; (focus (simp; done))) | (with_reducible refine But.alloc2 ?_ ?_; rotate_left; (focus (simp [World.setCell]; done))) | (with_reducible refine But.allocL ?_ ?_ ?_; rotate_left; (focus (simp; done)); (focus (simp; done))) | (with_reducible refine But.alloc ?_ _))); done)))); clear hK; intro hr; replace hx := hx.trans hr; clear hr; try simp only [Act.put, List.setIfInBounds_toArray, List.set_cons_zero, List.set_cons_succ])
      | (refine wpL_call (by rfl) (fun K hK => ?_); have hcy := Ext.cell hy; have hfy := Ext.froz hy; go_simp; (first | (refine hK _ _ ?_ ?_; (focus ((repeat (first | (with_reducible exact But.refl _ _) | assumption | (with_reducible refine But.drew ?_) | (with_reducible refine But.drewL ?_) | (with_reducible refine But.setCell ?_ ?_ _; rotate_left; (focus (simp; done))) | (with_reducible refine But.setCellL ?_ ?_; rotate_left; (focus (simp; done))) | (with_reducible refine But.alloc2 ?_ ?_; rotate_left; (focus (simp [World.setCell]; done))) | (with_reducible refine But.allocL ?_ ?_ ?_; rotate_left; (focus (simp; done)); (focus (simp; done))) | (with_reducible refine But.alloc ?_ _))); done))) | (refine hK undef _ ?_ ?_; (focus ((repeat (first | (with_reducible exact But.refl _ _) | assumption | (with_reducible refine But.drew ?_) | (with_reducible refine But.drewL ?_) | (with_reducible refine But.setCell ?_ ?_ _; rotate_left; (focus (simp; done))) | (with_reducible refine But.setCellL ?_ ?_; rotate_left; (focus (simp; done))) | (with_reducible refine But.alloc2 ?_ ?_; rotate_left; (focus (simp [World.setCell]; done))) | (with_reducible refine But.allocL ?_ ?_ ?_; rotate_left; (focus (simp; done)); (focus (simp; done))) | (with_reducible refine But.alloc ?_ _))); done)))); clear hK; intro hr; replace hx := hx.trans hr; clear hr; try simp only [Act.put, List.setIfInBounds_toArray, List.set_cons_zero, List.set_cons_succ]))
    refine wpL_end ?_
    go_wp2
    have e1 : (us.set i false).length = 32 := by simp [Hul.out]
    have e2 : (rs.set i 0).length = 32 := by simp [Hrl.out]
    have E1 := Lib.hid e1
    have E2 := Lib.hid e2
    clear e1 e2
    refine bodyPost_ret (v := .tuple #[.agg #[.slice (some ⟨g, 0, none⟩) 32 d, .slice (some ⟨g', 0, none⟩) 32 d'], .int .i64 0]) (by simp [results, Try.results13, go_sem, *]) rfl ⟨some ⟨g, 0, none⟩, d, some ⟨g', 0, none⟩, d', by rw [E1.out, E2.out], ?_, ?_, ?_⟩
    · rw [E1.out, ← bools_set]
      exact own_drew (own_alloc (own_other (own_other (own_other (own_set (own_base hB (by omega)) i _) hgg _) (Ne.symm hn3) _) (Ne.symm hn3) _) _)
    · rw [E2.out, ← words_set]
      exact own_drew (own_alloc (own_other (own_other (own_set (own_other (own_base hB' (by omega)) hgg' _) i _) (Ne.symm hn4) _) (Ne.symm hn4) _) _)
    · refine Ext.drew (Ext.alloc (Ext.setCell (Ext.setCell (Ext.setCell (Ext.setCell ?_ ?_ _) ?_ _) ?_ _) ?_ _) _)
      · (repeat (first | (with_reducible exact Ext.refl _) | assumption | (with_reducible refine Ext.alloc ?_ _) | (with_reducible refine Ext.drew ?_) | (with_reducible refine Ext.drewL ?_) | refine Ext.trans ?_ (by assumption)))
      · show w.heap.size ≤ g; omega
      · show w.heap.size ≤ g'; omega
      · show w.heap.size ≤ w.heap.size + 1; omega
      · show w.heap.size ≤ w.heap.size + 1; omega
  · have ht : dropT us rs h = ([], [], checkT us rs h) := by simp only [dropT, if_neg hc]
    rw [ht]
    clear ht
    have hc1 : (checkT us rs h != 0) = true := by simpa using hc
    clear hc
    go_enter Try.func13, Try.ntmps13
    go_wp2_with (first | (go_at_call 32; refine (check_any _ _ _ _ _ _ us rs _ _ (hu.ext (by (repeat (first | (with_reducible exact Ext.refl _) | assumption | (with_reducible refine Ext.alloc ?_ _) | (with_reducible refine Ext.drew ?_) | (with_reducible refine Ext.drewL ?_) | refine Ext.trans ?_ (by assumption))))) (hr.ext (by (repeat (first | (with_reducible exact Ext.refl _) | assumption | (with_reducible refine Ext.alloc ?_ _) | (with_reducible refine Ext.drew ?_) | (with_reducible refine Ext.drewL ?_) | refine Ext.trans ?_ (by assumption)))))).mono ?_; rintro e w1 ⟨rfl, hE⟩; have hcV := Ext.cell hE; have hfV := Ext.froz hE; have hzV := hE.size_le; simp at hzV) | (go_at_call 31; refine (roots_any _ _ _ _ _ _ us rs _ (hu.ext (by (repeat (first | (with_reducible exact Ext.refl _) | assumption | (with_reducible refine Ext.alloc ?_ _) | (with_reducible refine Ext.drew ?_) | (with_reducible refine Ext.drewL ?_) | refine Ext.trans ?_ (by assumption))))) (hr.ext (by (repeat (first | (with_reducible exact Ext.refl _) | assumption | (with_reducible refine Ext.alloc ?_ _) | (with_reducible refine Ext.drew ?_) | (with_reducible refine Ext.drewL ?_) | refine Ext.trans ?_ (by assumption))))) (by omega) (by omega)).mono ?_; rintro e w1 ⟨B, d, B', d', rfl, hB, hB', hE2⟩; have hcW := Ext.cell hE2; have hfW := Ext.froz hE2; have hzW := hE2.size_le; obtain ⟨g, rfl, hg1, hg2⟩ := own_form hB (by omega); obtain ⟨g', rfl, hg1', hg2'⟩ := own_form hB' (by omega); have hgg := own_ne hB hB' (by decide); obtain ⟨hcg, hfg⟩ := own_cells hB; obtain ⟨hcg', hfg'⟩ := own_cells hB'; have hq := hcg i _ hgi; have hq' := hcg' i _ hgi'; clear hcg hcg'))
    refine bodyPost_ret (v := .tuple #[.agg #[.slice none 0 0, .slice none 0 0], .int .i64 (checkT us rs h)]) (by simp [results, Try.results13, go_sem, *]) rfl (RetEdit.none_ rfl ?_)
    repeat (refine Ext.setCell ?_ (Nat.le_add_right _ _) _)
    (repeat (first | (with_reducible exact Ext.refl _) | assumption | (with_reducible refine Ext.alloc ?_ _) | (with_reducible refine Ext.drew ?_) | (with_reducible refine Ext.drewL ?_) | refine Ext.trans ?_ (by assumption)))

set_option maxHeartbeats 1000000 in
theorem rdrop_any (A A' : Option Addr) (n m c c' : Nat) (us : List Bool) (rs : List Int) (h : Int) (w : World) (hu : Rd w A n 1 (bools us)) (hr : Rd w A' m 1 (words rs)) :
    Calls Try.prog 28 #[.agg #[.slice A n c, .slice A' m c'], .int .i64 h] w fun r w' => RetEdit w (dropT us rs h).1 (dropT us rs h).2.1 (dropT us rs h).2.2 r w' := by
  by_cases hc : checkT us rs h = 0
  · obtain ⟨hv, i, hk, rfl, hku⟩ := check_zero hc
    obtain ⟨h1, h2⟩ := valid_len hv
    have hul : us.length = n := by have := hu.1; simpa [bools] using this
    have hrl : rs.length = m := by have := hr.1; simpa [words] using this
    obtain rfl : n = 32 := by omega
    obtain rfl : m = 32 := by omega
    have e0 : ((i : Int) + 1 - 1).toNat = i := by omega
    have ht : dropT us rs ((i : Int) + 1) = (us.set i false, rs.set i 0, 0) := by simp only [dropT, hc, if_true, e0]
    rw [ht]
    have hgi : (bools us)[i]? = some (.bool (us[i]'(by omega))) := by simp [bools]
    have hgi' : (words rs)[i]? = some (.int .u64 (rs[i]'(by omega))) := by simp [words]
    generalize us[i]'(by omega) = ui at hgi
    generalize rs[i]'(by omega) = ri at hgi'
    have Hul := Lib.hid hul
    have Hrl := Lib.hid hrl
    clear hul hrl ht e0 hku h1 h2 hv
    have hib : (i : Int) < 32 := by omega
    have b1 : (i : Int) + 1 - 1 = i := by omega
    go_enter Try.func28, Try.ntmps28
    go_wp2_with (first | (go_at_call 33; refine (fault_any _ _ _ _ _ _ us rs _ _ (hu.ext (by (repeat (first | (with_reducible exact Ext.refl _) | assumption | (with_reducible refine Ext.alloc ?_ _) | (with_reducible refine Ext.drew ?_) | (with_reducible refine Ext.drewL ?_) | refine Ext.trans ?_ (by assumption))))) (hr.ext (by (repeat (first | (with_reducible exact Ext.refl _) | assumption | (with_reducible refine Ext.alloc ?_ _) | (with_reducible refine Ext.drew ?_) | (with_reducible refine Ext.drewL ?_) | refine Ext.trans ?_ (by assumption)))))).mono ?_; rintro e w1 ⟨rfl, hE⟩; have hcV := Ext.cell hE; have hfV := Ext.froz hE; have hzV := hE.size_le; simp at hzV) | (go_at_call 16; refine (copy_any _ _ _ _ _ _ us rs _ (hu.ext (by (repeat (first | (with_reducible exact Ext.refl _) | assumption | (with_reducible refine Ext.alloc ?_ _) | (with_reducible refine Ext.drew ?_) | (with_reducible refine Ext.drewL ?_) | refine Ext.trans ?_ (by assumption))))) (hr.ext (by (repeat (first | (with_reducible exact Ext.refl _) | assumption | (with_reducible refine Ext.alloc ?_ _) | (with_reducible refine Ext.drew ?_) | (with_reducible refine Ext.drewL ?_) | refine Ext.trans ?_ (by assumption))))) (by omega) (by omega)).mono ?_; rintro e w1 ⟨B, d, B', d', rfl, hB, hB', hE2⟩; have hcW := Ext.cell hE2; have hfW := Ext.froz hE2; have hzW := hE2.size_le; obtain ⟨g, rfl, hg1, hg2⟩ := own_form hB (by omega); obtain ⟨g', rfl, hg1', hg2'⟩ := own_form hB' (by omega); have hgg := own_ne hB hB' (by decide); obtain ⟨hcg, hfg⟩ := own_cells hB; obtain ⟨hcg', hfg'⟩ := own_cells hB'; have hq := hcg i _ hgi; have hq' := hcg' i _ hgi'; clear hcg hcg'))
    have hb4 : Blk w1 (w.heap.size + 1) 30 #[.slice none 0 0, .slice none 0 0] := by (repeat (first | assumption | (with_reducible refine Blk.new ?_; (focus (simp; done))) | (with_reducible exact Blk.new rfl) | (with_reducible refine Blk.drew ?_) | (with_reducible refine Blk.alloc ?_ _) | refine Blk.ext ?_ (by assumption)))
    have hc4 := hb4.cell
    have hf4 := hb4.froz
    have hn3 : w.heap.size + 1 ≠ g := by omega
    have hn4 : w.heap.size + 1 ≠ g' := by omega
    have hn5 : w.heap.size + 1 < w1.heap.size := by omega
    have hn1 : w1.heap.size ≠ g := by omega
    have hn2 : w1.heap.size ≠ g' := by omega
    have hgg' : g' ≠ g := fun e => hgg e.symm
    refine wp_region_but [g, g'] [(true, 0), (true, 1), (true, 2), (true, 3), (true, 4), (true, 5), (true, 6), (true, 7), (true, 8), (false, 9), (true, 10), (false, 11)] Try.mixed (by kernel_rfl) (by simp only [pick, List.filterMap_cons, List.filterMap_nil, List.getElem?_toArray, List.getElem?_cons_succ, List.getElem?_cons_zero, Option.map_some]; rfl) ?_
    intro hx hy
    repeat (first
      | (refine wpL_takeB hx (v := ?_) (by rfl) (fun _ hc => ?_) ?_
         rotate_left
         focus (go_simp; (try go_ints); exact rfl)
         simp only [Act.put, List.setIfInBounds_toArray, List.set_cons_zero, List.set_cons_succ])
      | (refine wpL_skip (by rfl) ?_; simp only [Act.put, List.setIfInBounds_toArray, List.set_cons_zero, List.set_cons_succ])
      | (refine wpL_call (by rfl) (fun K hK => ?_); go_simp; (first | (refine hK _ _ ?_ ?_; (focus ((repeat (first | (with_reducible exact But.refl _ _) | assumption | (with_reducible refine But.drew ?_) | (with_reducible refine But.drewL ?_) | (with_reducible refine But.setCell ?_ ?_ _; rotate_left; (focus (simp; done))) | (with_reducible refine But.setCellL ?_ ?_; rotate_left; (focus (simp; done))) | (with_reducible refine But.alloc2 ?_ ?_; rotate_left; (focus (simp [World.setCell]; done))) | (with_reducible refine But.allocL ?_ ?_ ?_; rotate_left; (focus (simp; done)); (focus (simp; done))) | (with_reducible refine But.alloc ?_ _))); done))) | (refine hK undef _ ?_ ?_; (focus ((repeat (first | (with_reducible exact But.refl _ _) | assumption | (with_reducible refine But.drew ?_) | (with_reducible refine But.drewL ?_) | (with_reducible refine But.setCell ?_ ?_ _; rotate_left; (focus (simp; done))) | (with_reducible refine But.setCellL ?_ ?_; rotate_left; (focus (simp; done))) | (with_reducible refine But.alloc2 ?_ ?_; rotate_left; (focus (simp [World.setCell]; done))) | (with_reducible refine But.allocL ?_ ?_ ?_; rotate_left; (focus (simp; done)); (focus (simp; done))) | (with_reducible refine But.alloc ?_ _))); done)))); clear hK; intro hr; replace hx := hx.trans hr; clear hr; try simp only [Act.put, List.setIfInBounds_toArray, List.set_cons_zero, List.set_cons_succ])
      | (refine wpL_call (by rfl) (fun K hK => ?_); have hcy := Ext.cell hy; have hfy := Ext.froz hy; go_simp; (first | (refine hK _ _ ?_ ?_; (focus ((repeat (first | (with_reducible exact But.refl _ _) | assumption | (with_reducible refine But.drew ?_) | (with_reducible refine But.drewL ?_) | (with_reducible refine But.setCell ?_ ?_ _; rotate_left; (focus (simp; done))) | (with_reducible refine But.setCellL ?_ ?_; rotate_left; (focus (simp; done))) | (with_reducible refine But.alloc2 ?_ ?_; rotate_left; (focus (simp [World.setCell]; done))) | (with_reducible refine But.allocL ?_ ?_ ?_; rotate_left; (focus (simp; done)); (focus (simp; done))) | (with_reducible refine But.alloc ?_ _))); done))) | (refine hK undef _ ?_ ?_; (focus ((repeat (first | (with_reducible exact But.refl _ _) | assumption | (with_reducible refine But.drew ?_) | (with_reducible refine But.drewL ?_) | (with_reducible refine But.setCell ?_ ?_ _; rotate_left; (focus (simp; done))) | (with_reducible refine But.setCellL ?_ ?_; rotate_left; (focus (simp; done))) | (with_reducible refine But.alloc2 ?_ ?_; rotate_left; (focus (simp [World.setCell]; done))) | (with_reducible refine But.allocL ?_ ?_ ?_; rotate_left; (focus (simp; done)); (focus (simp; done))) | (with_reducible refine But.alloc ?_ _))); done)))); clear hK; intro hr; replace hx := hx.trans hr; clear hr; try simp only [Act.put, List.setIfInBounds_toArray, List.set_cons_zero, List.set_cons_succ]))
    refine wpL_end ?_
    go_wp2
    have e1 : (us.set i false).length = 32 := by simp [Hul.out]
    have e2 : (rs.set i 0).length = 32 := by simp [Hrl.out]
    have E1 := Lib.hid e1
    have E2 := Lib.hid e2
    clear e1 e2
    refine bodyPost_ret (v := .tuple #[.agg #[.slice (some ⟨g, 0, none⟩) 32 d, .slice (some ⟨g', 0, none⟩) 32 d'], .int .i64 0]) (by simp [results, Try.results28, go_sem, *]) rfl ⟨some ⟨g, 0, none⟩, d, some ⟨g', 0, none⟩, d', by rw [E1.out, E2.out], ?_, ?_, ?_⟩
    · rw [E1.out, ← bools_set]
      exact own_drew (own_alloc (own_other (own_other (own_other (own_set (own_base hB (by omega)) i _) hgg _) (Ne.symm hn3) _) (Ne.symm hn3) _) _)
    · rw [E2.out, ← words_set]
      exact own_drew (own_alloc (own_other (own_other (own_set (own_other (own_base hB' (by omega)) hgg' _) i _) (Ne.symm hn4) _) (Ne.symm hn4) _) _)
    · refine Ext.drew (Ext.alloc (Ext.setCell (Ext.setCell (Ext.setCell (Ext.setCell ?_ ?_ _) ?_ _) ?_ _) ?_ _) _)
      · (repeat (first | (with_reducible exact Ext.refl _) | assumption | (with_reducible refine Ext.alloc ?_ _) | (with_reducible refine Ext.drew ?_) | (with_reducible refine Ext.drewL ?_) | refine Ext.trans ?_ (by assumption)))
      · show w.heap.size ≤ g; omega
      · show w.heap.size ≤ g'; omega
      · show w.heap.size ≤ w.heap.size + 1; omega
      · show w.heap.size ≤ w.heap.size + 1; omega
  · have ht : dropT us rs h = ([], [], checkT us rs h) := by simp only [dropT, if_neg hc]
    rw [ht]
    clear ht
    have hc1 : (checkT us rs h != 0) = true := by simpa using hc
    clear hc
    go_enter Try.func28, Try.ntmps28
    go_wp2_with (first | (go_at_call 33; refine (fault_any _ _ _ _ _ _ us rs _ _ (hu.ext (by (repeat (first | (with_reducible exact Ext.refl _) | assumption | (with_reducible refine Ext.alloc ?_ _) | (with_reducible refine Ext.drew ?_) | (with_reducible refine Ext.drewL ?_) | refine Ext.trans ?_ (by assumption))))) (hr.ext (by (repeat (first | (with_reducible exact Ext.refl _) | assumption | (with_reducible refine Ext.alloc ?_ _) | (with_reducible refine Ext.drew ?_) | (with_reducible refine Ext.drewL ?_) | refine Ext.trans ?_ (by assumption)))))).mono ?_; rintro e w1 ⟨rfl, hE⟩; have hcV := Ext.cell hE; have hfV := Ext.froz hE; have hzV := hE.size_le; simp at hzV) | (go_at_call 16; refine (copy_any _ _ _ _ _ _ us rs _ (hu.ext (by (repeat (first | (with_reducible exact Ext.refl _) | assumption | (with_reducible refine Ext.alloc ?_ _) | (with_reducible refine Ext.drew ?_) | (with_reducible refine Ext.drewL ?_) | refine Ext.trans ?_ (by assumption))))) (hr.ext (by (repeat (first | (with_reducible exact Ext.refl _) | assumption | (with_reducible refine Ext.alloc ?_ _) | (with_reducible refine Ext.drew ?_) | (with_reducible refine Ext.drewL ?_) | refine Ext.trans ?_ (by assumption))))) (by omega) (by omega)).mono ?_; rintro e w1 ⟨B, d, B', d', rfl, hB, hB', hE2⟩; have hcW := Ext.cell hE2; have hfW := Ext.froz hE2; have hzW := hE2.size_le; obtain ⟨g, rfl, hg1, hg2⟩ := own_form hB (by omega); obtain ⟨g', rfl, hg1', hg2'⟩ := own_form hB' (by omega); have hgg := own_ne hB hB' (by decide); obtain ⟨hcg, hfg⟩ := own_cells hB; obtain ⟨hcg', hfg'⟩ := own_cells hB'; have hq := hcg i _ hgi; have hq' := hcg' i _ hgi'; clear hcg hcg'))
    refine bodyPost_ret (v := .tuple #[.agg #[.slice none 0 0, .slice none 0 0], .int .i64 (checkT us rs h)]) (by simp [results, Try.results28, go_sem, *]) rfl (RetEdit.none_ rfl ?_)
    repeat (refine Ext.setCell ?_ (Nat.le_add_right _ _) _)
    (repeat (first | (with_reducible exact Ext.refl _) | assumption | (with_reducible refine Ext.alloc ?_ _) | (with_reducible refine Ext.drew ?_) | (with_reducible refine Ext.drewL ?_) | refine Ext.trans ?_ (by assumption)))

end Go.Proofs.Ytgjgnokfmjeekaa
