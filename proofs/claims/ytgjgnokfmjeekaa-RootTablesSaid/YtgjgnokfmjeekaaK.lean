/- The walks of root.Set and of its reference. Conditions: the ranges that each theorem states. -/
import Derived.Test.YtgjgnokfmjeekaaG
import Derived.Deep.DeepCutAuto
namespace Go.Proofs.Ytgjgnokfmjeekaa
open Go.RowKit Go.Draw

set_option maxHeartbeats 1000000 in
theorem set_any (A A' : Option Addr) (n m c c' : Nat) (us : List Bool) (rs : List Int) (h v : Int) (w : World) (hu : Rd w A n 1 (bools us)) (hr : Rd w A' m 1 (words rs)) :
    Calls Try.prog 26 #[.agg #[.slice A n c, .slice A' m c'], .int .i64 h, .int .u64 v] w fun r w' => RetEdit w (setT us rs h v).1 (setT us rs h v).2.1 (setT us rs h v).2.2 r w' := by
  by_cases hc : checkT us rs h = 0
  · obtain ⟨hv, i, hk, rfl, hku⟩ := check_zero hc
    obtain ⟨h1, h2⟩ := valid_len hv
    have hul : us.length = n := by have := hu.1; simpa [bools] using this
    have hrl : rs.length = m := by have := hr.1; simpa [words] using this
    obtain rfl : n = 32 := by omega
    obtain rfl : m = 32 := by omega
    have e0 : ((i : Int) + 1 - 1).toNat = i := by omega
    have ht : setT us rs ((i : Int) + 1) v = (us, rs.set i v, 0) := by simp only [setT, hc, if_true, e0]
    rw [ht]
    have hgi : (bools us)[i]? = some (.bool (us[i]'(by omega))) := by simp [bools]
    have hgi' : (words rs)[i]? = some (.int .u64 (rs[i]'(by omega))) := by simp [words]
    generalize us[i]'(by omega) = ui at hgi
    generalize rs[i]'(by omega) = ri at hgi'
    have Hul := Lib.hid hul
    have Hrl := Lib.hid hrl
    clear hul hrl ht e0 hku h1 h2 hv
    have hib : (i : Int) < 32 := by omega
    have b1 : (i : Int) + 1 - 1 = i := by omega
    go_enter Try.func26, Try.ntmps26
    go_upto_region 5 with (first | (go_at_call 32; refine (check_any _ _ _ _ _ _ us rs _ _ (hu.ext (by (repeat (first | (with_reducible exact Ext.refl _) | assumption | (with_reducible refine Ext.alloc ?_ _) | (with_reducible refine Ext.drew ?_) | (with_reducible refine Ext.drewL ?_) | refine Ext.trans ?_ (by assumption))))) (hr.ext (by (repeat (first | (with_reducible exact Ext.refl _) | assumption | (with_reducible refine Ext.alloc ?_ _) | (with_reducible refine Ext.drew ?_) | (with_reducible refine Ext.drewL ?_) | refine Ext.trans ?_ (by assumption)))))).mono ?_; rintro e w1 ⟨rfl, hE⟩; have hcV := Ext.cell hE; have hfV := Ext.froz hE; have hzV := hE.size_le; simp at hzV) | (go_at_call 31; refine (roots_any _ _ _ _ _ _ us rs _ (hu.ext (by (repeat (first | (with_reducible exact Ext.refl _) | assumption | (with_reducible refine Ext.alloc ?_ _) | (with_reducible refine Ext.drew ?_) | (with_reducible refine Ext.drewL ?_) | refine Ext.trans ?_ (by assumption))))) (hr.ext (by (repeat (first | (with_reducible exact Ext.refl _) | assumption | (with_reducible refine Ext.alloc ?_ _) | (with_reducible refine Ext.drew ?_) | (with_reducible refine Ext.drewL ?_) | refine Ext.trans ?_ (by assumption))))) (by omega) (by omega)).mono ?_; rintro e w1 ⟨B, d, B', d', rfl, hB, hB', hE2⟩; have hcW := Ext.cell hE2; have hfW := Ext.froz hE2; have hzW := hE2.size_le; obtain ⟨g, rfl, hg1, hg2⟩ := own_form hB (by omega); obtain ⟨g', rfl, hg1', hg2'⟩ := own_form hB' (by omega); have hgg := own_ne hB hB' (by decide); obtain ⟨hcg, hfg⟩ := own_cells hB; obtain ⟨hcg', hfg'⟩ := own_cells hB'; have hq := hcg i _ hgi; have hq' := hcg' i _ hgi'; clear hcg hcg'))
    have hb4 : Blk w1 (w.heap.size + 1) 30 #[.slice none 0 0, .slice none 0 0] := by (repeat (first | assumption | (with_reducible refine Blk.new ?_; (focus (simp; done))) | (with_reducible exact Blk.new rfl) | (with_reducible refine Blk.drew ?_) | (with_reducible refine Blk.alloc ?_ _) | refine Blk.ext ?_ (by assumption)))
    have hc4 := hb4.cell
    have hf4 := hb4.froz
    have hn3 : w.heap.size + 1 ≠ g := by omega
    have hn4 : w.heap.size + 1 ≠ g' := by omega
    have hn5 : w.heap.size + 1 < w1.heap.size := by omega
    have hn1 : w1.heap.size ≠ g := by omega
    have hn2 : w1.heap.size ≠ g' := by omega
    have hgg' : g' ≠ g := fun e => hgg e.symm
    go_wp2
    have e1 : us.length = 32 := Hul.out
    have e2 : (rs.set i v).length = 32 := by simp [Hrl.out]
    have E1 := Lib.hid e1
    have E2 := Lib.hid e2
    clear e1 e2
    refine bodyPost_ret (v := .tuple #[.agg #[.slice (some ⟨g, 0, none⟩) 32 d, .slice (some ⟨g', 0, none⟩) 32 d'], .int .i64 0]) (by simp [results, Try.results26, go_sem, *]) rfl ⟨some ⟨g, 0, none⟩, d, some ⟨g', 0, none⟩, d', by rw [E1.out, E2.out], ?_, ?_, ?_⟩
    · rw [E1.out]
      exact own_alloc (own_other (own_other (own_other (own_base hB (by omega)) hgg _) (Ne.symm hn3) _) (Ne.symm hn3) _) _
    · rw [E2.out, ← words_set]
      exact own_alloc (own_other (own_other (own_set (own_base hB' (by omega)) i _) (Ne.symm hn4) _) (Ne.symm hn4) _) _
    · refine Ext.alloc (Ext.setCell (Ext.setCell (Ext.setCell ?_ ?_ _) ?_ _) ?_ _) _
      · (repeat (first | (with_reducible exact Ext.refl _) | assumption | (with_reducible refine Ext.alloc ?_ _) | (with_reducible refine Ext.drew ?_) | (with_reducible refine Ext.drewL ?_) | refine Ext.trans ?_ (by assumption)))
      · show w.heap.size ≤ g'; omega
      · show w.heap.size ≤ w.heap.size + 1; omega
      · show w.heap.size ≤ w.heap.size + 1; omega
  · have ht : setT us rs h v = ([], [], checkT us rs h) := by simp only [setT, if_neg hc]
    rw [ht]
    clear ht
    have hc1 : (checkT us rs h != 0) = true := by simpa using hc
    clear hc
    go_enter Try.func26, Try.ntmps26
    go_wp2_with (first | (go_at_call 32; refine (check_any _ _ _ _ _ _ us rs _ _ (hu.ext (by (repeat (first | (with_reducible exact Ext.refl _) | assumption | (with_reducible refine Ext.alloc ?_ _) | (with_reducible refine Ext.drew ?_) | (with_reducible refine Ext.drewL ?_) | refine Ext.trans ?_ (by assumption))))) (hr.ext (by (repeat (first | (with_reducible exact Ext.refl _) | assumption | (with_reducible refine Ext.alloc ?_ _) | (with_reducible refine Ext.drew ?_) | (with_reducible refine Ext.drewL ?_) | refine Ext.trans ?_ (by assumption)))))).mono ?_; rintro e w1 ⟨rfl, hE⟩; have hcV := Ext.cell hE; have hfV := Ext.froz hE; have hzV := hE.size_le; simp at hzV) | (go_at_call 31; refine (roots_any _ _ _ _ _ _ us rs _ (hu.ext (by (repeat (first | (with_reducible exact Ext.refl _) | assumption | (with_reducible refine Ext.alloc ?_ _) | (with_reducible refine Ext.drew ?_) | (with_reducible refine Ext.drewL ?_) | refine Ext.trans ?_ (by assumption))))) (hr.ext (by (repeat (first | (with_reducible exact Ext.refl _) | assumption | (with_reducible refine Ext.alloc ?_ _) | (with_reducible refine Ext.drew ?_) | (with_reducible refine Ext.drewL ?_) | refine Ext.trans ?_ (by assumption))))) (by omega) (by omega)).mono ?_; rintro e w1 ⟨B, d, B', d', rfl, hB, hB', hE2⟩; have hcW := Ext.cell hE2; have hfW := Ext.froz hE2; have hzW := hE2.size_le; obtain ⟨g, rfl, hg1, hg2⟩ := own_form hB (by omega); obtain ⟨g', rfl, hg1', hg2'⟩ := own_form hB' (by omega); have hgg := own_ne hB hB' (by decide); obtain ⟨hcg, hfg⟩ := own_cells hB; obtain ⟨hcg', hfg'⟩ := own_cells hB'; have hq := hcg i _ hgi; have hq' := hcg' i _ hgi'; clear hcg hcg'))
    refine bodyPost_ret (v := .tuple #[.agg #[.slice none 0 0, .slice none 0 0], .int .i64 (checkT us rs h)]) (by simp [results, Try.results26, go_sem, *]) rfl (RetEdit.none_ rfl ?_)
    repeat (refine Ext.setCell ?_ (Nat.le_add_right _ _) _)
    (repeat (first | (with_reducible exact Ext.refl _) | assumption | (with_reducible refine Ext.alloc ?_ _) | (with_reducible refine Ext.drew ?_) | (with_reducible refine Ext.drewL ?_) | refine Ext.trans ?_ (by assumption)))

set_option maxHeartbeats 1000000 in
theorem rset_any (A A' : Option Addr) (n m c c' : Nat) (us : List Bool) (rs : List Int) (h v : Int) (w : World) (hu : Rd w A n 1 (bools us)) (hr : Rd w A' m 1 (words rs)) :
    Calls Try.prog 27 #[.agg #[.slice A n c, .slice A' m c'], .int .i64 h, .int .u64 v] w fun r w' => RetEdit w (setT us rs h v).1 (setT us rs h v).2.1 (setT us rs h v).2.2 r w' := by
  by_cases hc : checkT us rs h = 0
  · obtain ⟨hv, i, hk, rfl, hku⟩ := check_zero hc
    obtain ⟨h1, h2⟩ := valid_len hv
    have hul : us.length = n := by have := hu.1; simpa [bools] using this
    have hrl : rs.length = m := by have := hr.1; simpa [words] using this
    obtain rfl : n = 32 := by omega
    obtain rfl : m = 32 := by omega
    have e0 : ((i : Int) + 1 - 1).toNat = i := by omega
    have ht : setT us rs ((i : Int) + 1) v = (us, rs.set i v, 0) := by simp only [setT, hc, if_true, e0]
    rw [ht]
    have hgi : (bools us)[i]? = some (.bool (us[i]'(by omega))) := by simp [bools]
    have hgi' : (words rs)[i]? = some (.int .u64 (rs[i]'(by omega))) := by simp [words]
    generalize us[i]'(by omega) = ui at hgi
    generalize rs[i]'(by omega) = ri at hgi'
    have Hul := Lib.hid hul
    have Hrl := Lib.hid hrl
    clear hul hrl ht e0 hku h1 h2 hv
    have hib : (i : Int) < 32 := by omega
    have b1 : (i : Int) + 1 - 1 = i := by omega
    go_enter Try.func27, Try.ntmps27
    go_upto_region 5 with (first | (go_at_call 33; refine (fault_any _ _ _ _ _ _ us rs _ _ (hu.ext (by (repeat (first | (with_reducible exact Ext.refl _) | assumption | (with_reducible refine Ext.alloc ?_ _) | (with_reducible refine Ext.drew ?_) | (with_reducible refine Ext.drewL ?_) | refine Ext.trans ?_ (by assumption))))) (hr.ext (by (repeat (first | (with_reducible exact Ext.refl _) | assumption | (with_reducible refine Ext.alloc ?_ _) | (with_reducible refine Ext.drew ?_) | (with_reducible refine Ext.drewL ?_) | refine Ext.trans ?_ (by assumption)))))).mono ?_; rintro e w1 ⟨rfl, hE⟩; have hcV := Ext.cell hE; have hfV := Ext.froz hE; have hzV := hE.size_le; simp at hzV) | (go_at_call 16; refine (copy_any _ _ _ _ _ _ us rs _ (hu.ext (by (repeat (first | (with_reducible exact Ext.refl _) | assumption | (with_reducible refine Ext.alloc ?_ _) | (with_reducible refine Ext.drew ?_) | (with_reducible refine Ext.drewL ?_) | refine Ext.trans ?_ (by assumption))))) (hr.ext (by (repeat (first | (with_reducible exact Ext.refl _) | assumption | (with_reducible refine Ext.alloc ?_ _) | (with_reducible refine Ext.drew ?_) | (with_reducible refine Ext.drewL ?_) | refine Ext.trans ?_ (by assumption))))) (by omega) (by omega)).mono ?_; rintro e w1 ⟨B, d, B', d', rfl, hB, hB', hE2⟩; have hcW := Ext.cell hE2; have hfW := Ext.froz hE2; have hzW := hE2.size_le; obtain ⟨g, rfl, hg1, hg2⟩ := own_form hB (by omega); obtain ⟨g', rfl, hg1', hg2'⟩ := own_form hB' (by omega); have hgg := own_ne hB hB' (by decide); obtain ⟨hcg, hfg⟩ := own_cells hB; obtain ⟨hcg', hfg'⟩ := own_cells hB'; have hq := hcg i _ hgi; have hq' := hcg' i _ hgi'; clear hcg hcg'))
    have hb4 : Blk w1 (w.heap.size + 1) 30 #[.slice none 0 0, .slice none 0 0] := by (repeat (first | assumption | (with_reducible refine Blk.new ?_; (focus (simp; done))) | (with_reducible exact Blk.new rfl) | (with_reducible refine Blk.drew ?_) | (with_reducible refine Blk.alloc ?_ _) | refine Blk.ext ?_ (by assumption)))
    have hc4 := hb4.cell
    have hf4 := hb4.froz
    have hn3 : w.heap.size + 1 ≠ g := by omega
    have hn4 : w.heap.size + 1 ≠ g' := by omega
    have hn5 : w.heap.size + 1 < w1.heap.size := by omega
    have hn1 : w1.heap.size ≠ g := by omega
    have hn2 : w1.heap.size ≠ g' := by omega
    have hgg' : g' ≠ g := fun e => hgg e.symm
    go_wp2
    have e1 : us.length = 32 := Hul.out
    have e2 : (rs.set i v).length = 32 := by simp [Hrl.out]
    have E1 := Lib.hid e1
    have E2 := Lib.hid e2
    clear e1 e2
    refine bodyPost_ret (v := .tuple #[.agg #[.slice (some ⟨g, 0, none⟩) 32 d, .slice (some ⟨g', 0, none⟩) 32 d'], .int .i64 0]) (by simp [results, Try.results27, go_sem, *]) rfl ⟨some ⟨g, 0, none⟩, d, some ⟨g', 0, none⟩, d', by rw [E1.out, E2.out], ?_, ?_, ?_⟩
    · rw [E1.out]
      exact own_alloc (own_other (own_other (own_other (own_base hB (by omega)) hgg _) (Ne.symm hn3) _) (Ne.symm hn3) _) _
    · rw [E2.out, ← words_set]
      exact own_alloc (own_other (own_other (own_set (own_base hB' (by omega)) i _) (Ne.symm hn4) _) (Ne.symm hn4) _) _
    · refine Ext.alloc (Ext.setCell (Ext.setCell (Ext.setCell ?_ ?_ _) ?_ _) ?_ _) _
      · (repeat (first | (with_reducible exact Ext.refl _) | assumption | (with_reducible refine Ext.alloc ?_ _) | (with_reducible refine Ext.drew ?_) | (with_reducible refine Ext.drewL ?_) | refine Ext.trans ?_ (by assumption)))
      · show w.heap.size ≤ g'; omega
      · show w.heap.size ≤ w.heap.size + 1; omega
      · show w.heap.size ≤ w.heap.size + 1; omega
  · have ht : setT us rs h v = ([], [], checkT us rs h) := by simp only [setT, if_neg hc]
    rw [ht]
    clear ht
    have hc1 : (checkT us rs h != 0) = true := by simpa using hc
    clear hc
    go_enter Try.func27, Try.ntmps27
    go_wp2_with (first | (go_at_call 33; refine (fault_any _ _ _ _ _ _ us rs _ _ (hu.ext (by (repeat (first | (with_reducible exact Ext.refl _) | assumption | (with_reducible refine Ext.alloc ?_ _) | (with_reducible refine Ext.drew ?_) | (with_reducible refine Ext.drewL ?_) | refine Ext.trans ?_ (by assumption))))) (hr.ext (by (repeat (first | (with_reducible exact Ext.refl _) | assumption | (with_reducible refine Ext.alloc ?_ _) | (with_reducible refine Ext.drew ?_) | (with_reducible refine Ext.drewL ?_) | refine Ext.trans ?_ (by assumption)))))).mono ?_; rintro e w1 ⟨rfl, hE⟩; have hcV := Ext.cell hE; have hfV := Ext.froz hE; have hzV := hE.size_le; simp at hzV) | (go_at_call 16; refine (copy_any _ _ _ _ _ _ us rs _ (hu.ext (by (repeat (first | (with_reducible exact Ext.refl _) | assumption | (with_reducible refine Ext.alloc ?_ _) | (with_reducible refine Ext.drew ?_) | (with_reducible refine Ext.drewL ?_) | refine Ext.trans ?_ (by assumption))))) (hr.ext (by (repeat (first | (with_reducible exact Ext.refl _) | assumption | (with_reducible refine Ext.alloc ?_ _) | (with_reducible refine Ext.drew ?_) | (with_reducible refine Ext.drewL ?_) | refine Ext.trans ?_ (by assumption))))) (by omega) (by omega)).mono ?_; rintro e w1 ⟨B, d, B', d', rfl, hB, hB', hE2⟩; have hcW := Ext.cell hE2; have hfW := Ext.froz hE2; have hzW := hE2.size_le; obtain ⟨g, rfl, hg1, hg2⟩ := own_form hB (by omega); obtain ⟨g', rfl, hg1', hg2'⟩ := own_form hB' (by omega); have hgg := own_ne hB hB' (by decide); obtain ⟨hcg, hfg⟩ := own_cells hB; obtain ⟨hcg', hfg'⟩ := own_cells hB'; have hq := hcg i _ hgi; have hq' := hcg' i _ hgi'; clear hcg hcg'))
    refine bodyPost_ret (v := .tuple #[.agg #[.slice none 0 0, .slice none 0 0], .int .i64 (checkT us rs h)]) (by simp [results, Try.results27, go_sem, *]) rfl (RetEdit.none_ rfl ?_)
    repeat (refine Ext.setCell ?_ (Nat.le_add_right _ _) _)
    (repeat (first | (with_reducible exact Ext.refl _) | assumption | (with_reducible refine Ext.alloc ?_ _) | (with_reducible refine Ext.drew ?_) | (with_reducible refine Ext.drewL ?_) | refine Ext.trans ?_ (by assumption)))

end Go.Proofs.Ytgjgnokfmjeekaa
