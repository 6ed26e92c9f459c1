/- The walk of the reference of root.Take. Conditions: the ranges that each theorem states. -/
import Derived.Test.YtgjgnokfmjeekaaN
namespace Go.Proofs.Ytgjgnokfmjeekaa
open Go.RowKit Go.Draw

theorem RetTake.of {w w' : World} {us us' : List Bool} {rs rs' : List Int} {v h er : Int} {r : Ending} (ht : takeT us rs v = (us', rs', h, er)) (hx : RetTake w us' rs' h er r w') :
    RetTake w (takeT us rs v).1 (takeT us rs v).2.1 (takeT us rs v).2.2.1 (takeT us rs v).2.2.2 r w' := by rw [ht]; exact hx

set_option maxHeartbeats 1000000 in
theorem rtake_any (A A' : Option Addr) (n m c c' : Nat) (us : List Bool) (rs : List Int) (v : Int) (w : World) (hu : Rd w A n 1 (bools us)) (hr : Rd w A' m 1 (words rs)) :
    Calls Try.prog 23 #[.agg #[.slice A n c, .slice A' m c'], .int .u64 v] w fun r w' => RetTake w (takeT us rs v).1 (takeT us rs v).2.1 (takeT us rs v).2.2.1 (takeT us rs v).2.2.2 r w' := by
  have hul : us.length = n := by have := hu.1; simpa [bools] using this
  have hrl : rs.length = m := by have := hr.1; simpa [words] using this
  by_cases hv : validT us rs = true
  · obtain ⟨h1, h2⟩ := valid_len hv
    obtain rfl : n = 32 := by omega
    obtain rfl : m = 32 := by omega
    have Hul := Lib.hid hul
    have Hrl := Lib.hid hrl
    clear h1 h2 hul hrl
    have Hv := Lib.hid hv
    go_enter Try.func23, Try.ntmps23
    go_wp2_with (first | (go_at_call 19; refine (rvalid_any _ _ _ _ _ _ us rs _ (hu.ext (by (repeat (first | (with_reducible exact Ext.refl _) | assumption | (with_reducible refine Ext.alloc ?_ _) | (with_reducible refine Ext.drew ?_) | (with_reducible refine Ext.drewL ?_) | refine Ext.trans ?_ (by assumption))))) (hr.ext (by (repeat (first | (with_reducible exact Ext.refl _) | assumption | (with_reducible refine Ext.alloc ?_ _) | (with_reducible refine Ext.drew ?_) | (with_reducible refine Ext.drewL ?_) | refine Ext.trans ?_ (by assumption)))))).mono ?_; rintro e w1 ⟨rfl, hE⟩; have hcV := Ext.cell hE; have hfV := Ext.froz hE; have hzV := hE.size_le; simp at hzV))
    have hb4 : Blk w1 (w.heap.size + 1) 30 #[.slice none 0 0, .slice none 0 0] := by (repeat (first | assumption | (with_reducible refine Blk.new ?_; (focus (simp; done))) | (with_reducible exact Blk.new rfl) | (with_reducible refine Blk.drew ?_) | (with_reducible refine Blk.alloc ?_ _) | refine Blk.ext ?_ (by assumption)))
    have hb2 : Blk w1 w.heap.size 30 #[.slice A 32 c, .slice A' 32 c'] := by (repeat (first | assumption | (with_reducible refine Blk.new ?_; (focus (simp; done))) | (with_reducible exact Blk.new rfl) | (with_reducible refine Blk.drew ?_) | (with_reducible refine Blk.alloc ?_ _) | refine Blk.ext ?_ (by assumption)))
    have hE0 : Ext w w1 := by (repeat (first | (with_reducible exact Ext.refl _) | assumption | (with_reducible refine Ext.alloc ?_ _) | (with_reducible refine Ext.drew ?_) | (with_reducible refine Ext.drewL ?_) | refine Ext.trans ?_ (by assumption)))
    go_loopw [17] (fun i wr => ∃ k : Nat, k ≤ 32 ∧ i = .int .i64 k ∧ wr = w1 ∧ ∀ j, j < k → us[j]? = some true) (fun i _ => 32 - (intOf i).toNat)
    case atStart => exact ⟨0, by omega, rfl, by simp, fun j hj => by omega⟩
    case round =>
      obtain ⟨k, hk, rfl, rfl, hd⟩ := hrel
      have Hd := Lib.hid hd
      clear hd
      by_cases hlt : k < 32
      · have hdec : decide ((k : Int) < 32) = true := by simp; omega
        have hdec' : decide (k < 32) = true := by simp; omega
        have hkb : (k : Int) < 32 := by omega
        obtain ⟨b, o, u, rfl, hku, hc⟩ := (hu.ext hE0).at_ hlt
        simp only [bools, List.getElem?_map, Option.map_eq_some_iff] at hku
        obtain ⟨x, hx1, rfl⟩ := hku
        have Hx := Lib.hid hx1
        clear hx1
        cases x with
        | true =>
          go_wp2
          go_roundw
          case rel => exact ⟨k + 1, by omega, by go_num, by simp, fun j hj => by
            by_cases e : j = k
            · subst e; exact Hx.out
            · exact Hd.out j (by omega)⟩
          case measure => simp [intOf]; omega
        | false =>
          have hix := freeI_at us k Hd.out Hx.out
          have ht : takeT us rs v = (us.set k true, rs.set k v, (k : Int) + 1, 0) := by
            have : us.idxOf false < us.length := by have := Hul.out; omega
            simp [takeT, Hv.out, hix, Hul.out, hlt]
          have Ht := Lib.hid ht
          clear ht hix
          have hgi : (bools us)[k]? = some (.bool (us[k]'(by have := Hul.out; omega))) := by simp [bools]
          have hgi' : (words rs)[k]? = some (.int .u64 (rs[k]'(by have := Hrl.out; omega))) := by simp [words]
          generalize us[k]'(by have := Hul.out; omega) = ui at hgi
          generalize rs[k]'(by have := Hrl.out; omega) = ri at hgi'
          have hc2 := hb2.cell
          have hz1 := hE0.size_le
          clear hv
          have Hlt := Lib.hid hlt
          clear hlt
          have hu1 := hu.ext hE0
          have hr1 := hr.ext hE0
          go_wp2_with (first | (go_at_call 16; refine (copy_any _ _ _ _ _ _ us rs _ (hu.ext (by (repeat (first | (with_reducible exact Ext.refl _) | assumption | (with_reducible refine Ext.alloc ?_ _) | (with_reducible refine Ext.drew ?_) | (with_reducible refine Ext.drewL ?_) | refine Ext.trans ?_ (by assumption))))) (hr.ext (by (repeat (first | (with_reducible exact Ext.refl _) | assumption | (with_reducible refine Ext.alloc ?_ _) | (with_reducible refine Ext.drew ?_) | (with_reducible refine Ext.drewL ?_) | refine Ext.trans ?_ (by assumption))))) (by omega) (by omega)).mono ?_; rintro e w1 ⟨B, d, B', d', rfl, hB, hB', hE2⟩; rename_i w2; have hcW := Ext.cell hE2; have hfW := Ext.froz hE2; have hzW := hE2.size_le; obtain ⟨g, rfl, hg1, hg2⟩ := own_form hB (by omega); obtain ⟨g', rfl, hg1', hg2'⟩ := own_form hB' (by omega); have hgg := own_ne hB hB' (by decide); obtain ⟨hcg, hfg⟩ := own_cells hB; obtain ⟨hcg', hfg'⟩ := own_cells hB'; have hq := hcg k _ hgi; have hq' := hcg' k _ hgi'; clear hcg hcg'))
          have hb4' : Blk w1 (w.heap.size + 1) 30 #[.slice none 0 0, .slice none 0 0] := by (repeat (first | assumption | (with_reducible refine Blk.new ?_; (focus (simp; done))) | (with_reducible exact Blk.new rfl) | (with_reducible refine Blk.drew ?_) | (with_reducible refine Blk.alloc ?_ _) | refine Blk.ext ?_ (by assumption)))
          have hc4 := hb4'.cell
          have hf4 := hb4'.froz
          have hn3 : w.heap.size + 1 ≠ g := by omega
          have hn4 : w.heap.size + 1 ≠ g' := by omega
          have hn5 : w.heap.size + 1 < w1.heap.size := by omega
          have hn1 : w1.heap.size ≠ g := by omega
          have hn2 : w1.heap.size ≠ g' := by omega
          have hgg' : g' ≠ g := fun e => hgg e.symm
          refine wp_region_but [g, g'] [(true, 0), (true, 1), (true, 2), (true, 3), (true, 4), (true, 5), (true, 6), (true, 7), (false, 8), (true, 9), (false, 10)] Try.mixed (by kernel_rfl) (by simp only [pick, List.filterMap_cons, List.filterMap_nil, List.getElem?_toArray, List.getElem?_cons_succ, List.getElem?_cons_zero, Option.map_some]; rfl) ?_
          intro hx hy
          repeat (first
            | (refine wpL_takeB hx (v := ?_) (by rfl) (fun _ hc => ?_) ?_
               rotate_left
               focus (go_simp; (try go_ints); exact rfl)
               simp only [Act.put, List.setIfInBounds_toArray, List.set_cons_zero, List.set_cons_succ])
            | (refine wpL_skip (by rfl) ?_; simp only [Act.put, List.setIfInBounds_toArray, List.set_cons_zero, List.set_cons_succ])
            | (refine wpL_call (by rfl) (fun K hK => ?_); go_simp; (first | (refine hK _ _ ?_ ?_; (focus ((repeat (first | (with_reducible exact But.refl _ _) | assumption | (with_reducible refine But.drew ?_) | (with_reducible refine But.drewL ?_) | (with_reducible refine But.setCell ?_ ?_ _; rotate_left; (focus (simp; done))) | (with_reducible refine But.setCellL ?_ ?_; rotate_left; (focus (simp; done))) | (with_reducible refine But.alloc2 ?_ ?_; rotate_left; (focus (simp [World.setCell]; done))) | (with_reducible refine But.allocL ?_ ?_ ?_; rotate_left; (focus (simp; done)); (focus (simp; done))) | (with_reducible refine But.alloc ?_ _))); done))) | (refine hK undef _ ?_ ?_; (focus ((repeat (first | (with_reducible exact But.refl _ _) | assumption | (with_reducible refine But.drew ?_) | (with_reducible refine But.drewL ?_) | (with_reducible refine But.setCell ?_ ?_ _; rotate_left; (focus (simp; done))) | (with_reducible refine But.setCellL ?_ ?_; rotate_left; (focus (simp; done))) | (with_reducible refine But.alloc2 ?_ ?_; rotate_left; (focus (simp [World.setCell]; done))) | (with_reducible refine But.allocL ?_ ?_ ?_; rotate_left; (focus (simp; done)); (focus (simp; done))) | (with_reducible refine But.alloc ?_ _))); done)))); clear hK; intro hr; replace hx := hx.trans hr; clear hr; try simp only [Act.put, List.setIfInBounds_toArray, List.set_cons_zero, List.set_cons_succ])
            | (refine wpL_call (by rfl) (fun K hK => ?_); have hcy := Ext.cell hy; have hfy := Ext.froz hy; go_simp; (first | (refine hK _ _ ?_ ?_; (focus ((repeat (first | (with_reducible exact But.refl _ _) | assumption | (with_reducible refine But.drew ?_) | (with_reducible refine But.drewL ?_) | (with_reducible refine But.setCell ?_ ?_ _; rotate_left; (focus (simp; done))) | (with_reducible refine But.setCellL ?_ ?_; rotate_left; (focus (simp; done))) | (with_reducible refine But.alloc2 ?_ ?_; rotate_left; (focus (simp [World.setCell]; done))) | (with_reducible refine But.allocL ?_ ?_ ?_; rotate_left; (focus (simp; done)); (focus (simp; done))) | (with_reducible refine But.alloc ?_ _))); done))) | (refine hK undef _ ?_ ?_; (focus ((repeat (first | (with_reducible exact But.refl _ _) | assumption | (with_reducible refine But.drew ?_) | (with_reducible refine But.drewL ?_) | (with_reducible refine But.setCell ?_ ?_ _; rotate_left; (focus (simp; done))) | (with_reducible refine But.setCellL ?_ ?_; rotate_left; (focus (simp; done))) | (with_reducible refine But.alloc2 ?_ ?_; rotate_left; (focus (simp [World.setCell]; done))) | (with_reducible refine But.allocL ?_ ?_ ?_; rotate_left; (focus (simp; done)); (focus (simp; done))) | (with_reducible refine But.alloc ?_ _))); done)))); clear hK; intro hr; replace hx := hx.trans hr; clear hr; try simp only [Act.put, List.setIfInBounds_toArray, List.set_cons_zero, List.set_cons_succ]))
          refine wpL_end ?_
          go_wp2
          have e1 : (us.set k true).length = 32 := by simp [Hul.out]
          have e2 : (rs.set k v).length = 32 := by simp [Hrl.out]
          have E1 := Lib.hid e1
          have E2 := Lib.hid e2
          clear e1 e2
          refine bodyPost_ret (v := .tuple #[.agg #[.slice (some ⟨g, 0, none⟩) 32 d, .slice (some ⟨g', 0, none⟩) 32 d'], .int .i64 ((k : Int) + 1), .int .i64 0]) (by simp [results, Try.results23, go_sem, *]) rfl (RetTake.of Ht.out ⟨some ⟨g, 0, none⟩, d, some ⟨g', 0, none⟩, d', by rw [E1.out, E2.out], ?_, ?_, ?_⟩)
          · rw [E1.out, ← bools_set]
            exact own_drew (own_alloc (own_other (own_other (own_other (own_set (own_base hB (by omega)) k _) hgg _) (Ne.symm hn3) _) (Ne.symm hn3) _) _)
          · rw [E2.out, ← words_set]
            exact own_drew (own_alloc (own_other (own_other (own_set (own_other (own_base hB' (by omega)) hgg' _) k _) (Ne.symm hn4) _) (Ne.symm hn4) _) _)
          · refine Ext.drew (Ext.alloc (Ext.setCell (Ext.setCell (Ext.setCell (Ext.setCell ?_ ?_ _) ?_ _) ?_ _) ?_ _) _)
            · (repeat (first | (with_reducible exact Ext.refl _) | assumption | (with_reducible refine Ext.alloc ?_ _) | (with_reducible refine Ext.drew ?_) | (with_reducible refine Ext.drewL ?_) | refine Ext.trans ?_ (by assumption)))
            · show w.heap.size ≤ g; omega
            · show w.heap.size ≤ g'; omega
            · show w.heap.size ≤ w.heap.size + 1; omega
            · show w.heap.size ≤ w.heap.size + 1; omega
      · obtain rfl : k = 32 := by omega
        have hdec : decide (((32 : Nat) : Int) < 32) = false := by simp
        have hi : ¬ us.idxOf false < us.length := by
          intro h
          have h2 := Hd.out (us.idxOf false) (by have := Hul.out; omega)
          rw [List.getElem?_eq_getElem h, List.getElem_idxOf] at h2
          cases h2
        have ht : takeT us rs v = ([], [], 0, 15) := by simp [takeT, Hv.out, hi]
        have Ht := Lib.hid ht
        clear hi ht
        go_wp2
        refine bodyPost_ret (v := .tuple #[.agg #[.slice none 0 0, .slice none 0 0], .int .i64 0, .int .i64 15]) (by simp [results, Try.results23, go_sem, *]) rfl (RetTake.of Ht.out (RetTake.none_ rfl ?_))
        repeat (refine Ext.setCell ?_ (Nat.le_add_right _ _) _)
        (repeat (first | (with_reducible exact Ext.refl _) | assumption | (with_reducible refine Ext.alloc ?_ _) | (with_reducible refine Ext.drew ?_) | (with_reducible refine Ext.drewL ?_) | refine Ext.trans ?_ (by assumption)))
  · have hv' : validT us rs = false := by simpa using hv
    have ht : takeT us rs v = ([], [], 0, 1) := by simp [takeT, hv']
    rw [ht]
    clear hul hrl ht hv
    go_enter Try.func23, Try.ntmps23
    go_wp2_with (first | (go_at_call 19; refine (rvalid_any _ _ _ _ _ _ us rs _ (hu.ext (by (repeat (first | (with_reducible exact Ext.refl _) | assumption | (with_reducible refine Ext.alloc ?_ _) | (with_reducible refine Ext.drew ?_) | (with_reducible refine Ext.drewL ?_) | refine Ext.trans ?_ (by assumption))))) (hr.ext (by (repeat (first | (with_reducible exact Ext.refl _) | assumption | (with_reducible refine Ext.alloc ?_ _) | (with_reducible refine Ext.drew ?_) | (with_reducible refine Ext.drewL ?_) | refine Ext.trans ?_ (by assumption)))))).mono ?_; rintro e w1 ⟨rfl, hE⟩; have hcV := Ext.cell hE; have hfV := Ext.froz hE; have hzV := hE.size_le; simp at hzV))
    refine bodyPost_ret (v := .tuple #[.agg #[.slice none 0 0, .slice none 0 0], .int .i64 0, .int .i64 1]) (by simp [results, Try.results23, go_sem, *]) rfl (RetTake.none_ rfl ?_)
    repeat (refine Ext.setCell ?_ (Nat.le_add_right _ _) _)
    (repeat (first | (with_reducible exact Ext.refl _) | assumption | (with_reducible refine Ext.alloc ?_ _) | (with_reducible refine Ext.drew ?_) | (with_reducible refine Ext.drewL ?_) | refine Ext.trans ?_ (by assumption)))
end Go.Proofs.Ytgjgnokfmjeekaa
