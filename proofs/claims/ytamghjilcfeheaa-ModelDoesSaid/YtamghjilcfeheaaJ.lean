/- The walk of the reference's Do: the comparison of two handles, a bad handle. Conditions: the ranges that each theorem states. -/
import Derived.Test.YtamghjilcfeheaaI
namespace Go.Proofs.Ytamghjilcfeheaa
open Go.RowKit Go.Draw

set_option maxRecDepth 100000 in
set_option maxHeartbeats 1000000 in
theorem do27_6 (v : Value) (g : Gr) (a b d : Int) (w : World) {S : List Nat} (hSb : ∀ x ∈ S, x < w.heap.size) (hg0 : GRx S w v g) (hv : Vld g) (hb : Bd g) :
    Calls Try.prog 27 #[v, .agg #[.int .i64 6, .int .i64 a, .int .i64 b, .int .i64 d]] w (RetDo S w (doT g 6 a b d)) := by
  have hg := hg0.rd
  have hlu := Lib.hid hv.lu
  have hlr := Lib.hid hv.lr
  by_cases ha : hErr g a false = 0
  · have ha1 : (hErr g a false == 0) = true := by simpa using ha
    have ha2 : (hErr g a false != 0) = false := by simpa using ha
    by_cases hbb : hErr g b false = 0
    · have hb1 : (hErr g b false == 0) = true := by simpa using hbb
      have hb2 : (hErr g b false != 0) = false := by simpa using hbb
      have ra : 0 ≤ a ∧ a ≤ 32 := by rcases hErr_ok hv.lu ha with ⟨h, _⟩ | ⟨i, h, h2, _⟩ <;> omega
      have rb : 0 ≤ b ∧ b ≤ 32 := by rcases hErr_ok hv.lu hbb with ⟨h, _⟩ | ⟨i, h, h2, _⟩ <;> omega
      have ht : doT g 6 a b d = (g, 0, if hNd g a = hNd g b then 1 else 0) := by simp [doT, ha, hbb]
      clear hv ha hbb
      by_cases he : hNd g a = hNd g b
      · rw [if_pos he] at ht
        rw [ht]
        clear ht
        have he1 : (hNd g a == hNd g b) = true := by simpa using he
        have He := Lib.hid he
        clear he
        obtain ⟨A0, a0, B0, b0, C0, c0, rfl⟩ := hg.sl
        go_enter Try.func27, Try.ntmps27
        go_upto_region 2 with (go_at_call 32; refine (copy_any _ g _ (hg.ext (by (repeat (first | (with_reducible exact Ext.refl _) | assumption | (with_reducible refine Ext.alloc ?_ _) | (with_reducible refine Ext.drew ?_) | (with_reducible refine Ext.drewL ?_) | refine Ext.trans ?_ (by assumption))))) hb).mono ?_; rintro e w1 ⟨vA, vB, vC, qs, rfl, hG, hE1⟩; obtain ⟨A1, a1, rfl⟩ := own_slice hG.nodes; obtain ⟨B1, b1, rfl⟩ := own_slice hG.used; obtain ⟨C1, c1, rfl⟩ := own_slice hG.roots; have kO : Blk (w1.alloc (.cells #[.slice none 0 0, .slice none 0 0, .slice none 0 0] 26)) w1.heap.size 26 #[.slice none 0 0, .slice none 0 0, .slice none 0 0] := Blk.new rfl; have cO := kO.cell; have fO := kO.froz)
        clear kO cO fO
        have hS := do_start hg hE1 hG
        clear hE1 hG hg
        obtain ⟨k2, k3, k4, k5, kO, hG, hg, hE, hlo, hhi⟩ := hS
        generalize hW : w1.alloc (.cells #[.slice A1 g.ns.length a1, .slice B1 g.us.length b1, .slice C1 g.rs.length c1] 26) = W at *
        clear hW
        generalize w1.heap.size = o at *
        clear w1
        have m2 := k2.cell
        have m3 := k3.cell
        have mO := kO.cell
        have f4 := k4.froz
        have f5 := k5.froz
        have n4 : w.heap.size + 1 + 1 ≠ o := by omega
        have n5 : w.heap.size + 1 + 1 + 1 ≠ o := by omega
        go_wp2_with (first | (go_at_call 33; refine (fail_any _ g _ _ (hg.ext (by (repeat (first | (with_reducible exact Ext.refl _) | assumption | (with_reducible refine Ext.alloc ?_ _) | (with_reducible refine Ext.drew ?_) | (with_reducible refine Ext.drewL ?_) | refine Ext.trans ?_ (by assumption)))))).mono ?_; rintro e w1 ⟨rfl, hEf⟩; have hE2 : Ext W w1 := (by (repeat (first | (with_reducible exact Ext.refl _) | assumption | (with_reducible refine Ext.alloc ?_ _) | (with_reducible refine Ext.drew ?_) | (with_reducible refine Ext.drewL ?_) | refine Ext.trans ?_ (by assumption)))); have m4' := (k4.ext hE2).cell; have m5' := (k5.ext hE2).cell; have f4' := (k4.ext hE2).froz; have f5' := (k5.ext hE2).froz) | (go_at_call 35; refine (handle_any _ g _ _ _ (hg.ext (by (repeat (first | (with_reducible exact Ext.refl _) | assumption | (with_reducible refine Ext.alloc ?_ _) | (with_reducible refine Ext.drew ?_) | (with_reducible refine Ext.drewL ?_) | refine Ext.trans ?_ (by assumption))))) hlu.out).mono ?_; rintro e w1 ⟨rfl, hE3⟩; have hE4 : Ext W w1 := (by (repeat (first | (with_reducible exact Ext.refl _) | assumption | (with_reducible refine Ext.alloc ?_ _) | (with_reducible refine Ext.drew ?_) | (with_reducible refine Ext.drewL ?_) | refine Ext.trans ?_ (by assumption)))); have m2' := (k2.ext hE4).cell; have m3' := (k3.ext hE4).cell; have mO' := (kO.ext hE4).cell))
        refine wp_region_ext [(true, 0), (true, 1), (true, 2), (true, 4), (true, 5), (true, 6), (false, 3), (false, 7), (true, 8)] Try.mixed (by kernel_rfl) (by simp only [pick, List.filterMap_cons, List.filterMap_nil, List.getElem?_toArray, List.getElem?_cons_succ, List.getElem?_cons_zero, Option.map_some]; rfl) ?_
        intro hx
        repeat (first
          | (refine wpL_take hx (v := ?_) (by rfl) (fun _ hc => ?_) ?_
             rotate_left
             focus (go_simp; (try go_ints); exact rfl)
             simp only [Act.put, List.setIfInBounds_toArray, List.set_cons_zero, List.set_cons_succ])
          | (refine wpL_skip (by rfl) ?_; simp only [Act.put, List.setIfInBounds_toArray, List.set_cons_zero, List.set_cons_succ])
          | (refine wpL_call (by rfl) (fun K hK => ?_); go_simp; go_at_call 36; refine (node36_any _ g _ _ (hg.ext (by (repeat (first | (with_reducible exact Ext.refl _) | assumption | (with_reducible refine Ext.alloc ?_ _) | (with_reducible refine Ext.drew ?_) | (with_reducible refine Ext.drewL ?_) | refine Ext.trans ?_ (by assumption))))) hlr.out (by assumption)).mono ?_; rintro e w1 ⟨rfl, hE9⟩; refine hK _ _ (hE9) ?_; clear hK; intro hr; replace hx := hx.trans hr; clear hr; simp only [Act.put, List.setIfInBounds_toArray, List.set_cons_zero, List.set_cons_succ])
          | (refine wpL_call (by rfl) (fun K hK => ?_); go_simp; (first | (refine hK _ _ ?_ ?_; (focus ((repeat (first | (with_reducible exact Ext.refl _) | assumption | (with_reducible refine Ext.alloc ?_ _) | (with_reducible refine Ext.drew ?_) | (with_reducible refine Ext.drewL ?_) | refine Ext.trans ?_ (by assumption))); done))) | (refine hK undef _ ?_ ?_; (focus ((repeat (first | (with_reducible exact Ext.refl _) | assumption | (with_reducible refine Ext.alloc ?_ _) | (with_reducible refine Ext.drew ?_) | (with_reducible refine Ext.drewL ?_) | refine Ext.trans ?_ (by assumption))); done)))); clear hK; intro hr; replace hx := hx.trans hr; clear hr; try simp only [Act.put, List.setIfInBounds_toArray, List.set_cons_zero, List.set_cons_succ]))
        refine wpL_end ?_
        have hE7 : Ext W w1 := (by (repeat (first | (with_reducible exact Ext.refl _) | assumption | (with_reducible refine Ext.alloc ?_ _) | (with_reducible refine Ext.drew ?_) | (with_reducible refine Ext.drewL ?_) | refine Ext.trans ?_ (by assumption))))
        have m4 := (k4.ext hE7).cell
        have m5 := (k5.ext hE7).cell
        have mO' := (kO.ext hE7).cell
        have f4' := (k4.ext hE7).froz
        have f5' := (k5.ext hE7).froz
        go_wp2
        obtain ⟨cF4, cF5⟩ := fin5 (n := w.heap.size) (.slice A1 g.ns.length a1) (.slice B1 g.us.length b1) (.slice C1 g.rs.length c1) (.int .i64 0) (.int .u64 (1)) (k4.ext hE7) (k5.ext hE7)
        exact bodyPost_ret (v := .tuple #[.agg #[.slice A1 g.ns.length a1, .slice B1 g.us.length b1, .slice C1 g.rs.length c1], .agg #[.int .i64 0, .int .u64 (1)]]) (by simp [results, Try.results27, go_sem, cF4, cF5]) rfl ⟨_, rfl, own5 hSb (hG.ext hE7), ext5 (hE.trans hE7)⟩
      · rw [if_neg he] at ht
        rw [ht]
        clear ht
        have he1 : (hNd g a == hNd g b) = false := by simpa using he
        have He := Lib.hid he
        clear he
        obtain ⟨A0, a0, B0, b0, C0, c0, rfl⟩ := hg.sl
        go_enter Try.func27, Try.ntmps27
        go_upto_region 2 with (go_at_call 32; refine (copy_any _ g _ (hg.ext (by (repeat (first | (with_reducible exact Ext.refl _) | assumption | (with_reducible refine Ext.alloc ?_ _) | (with_reducible refine Ext.drew ?_) | (with_reducible refine Ext.drewL ?_) | refine Ext.trans ?_ (by assumption))))) hb).mono ?_; rintro e w1 ⟨vA, vB, vC, qs, rfl, hG, hE1⟩; obtain ⟨A1, a1, rfl⟩ := own_slice hG.nodes; obtain ⟨B1, b1, rfl⟩ := own_slice hG.used; obtain ⟨C1, c1, rfl⟩ := own_slice hG.roots; have kO : Blk (w1.alloc (.cells #[.slice none 0 0, .slice none 0 0, .slice none 0 0] 26)) w1.heap.size 26 #[.slice none 0 0, .slice none 0 0, .slice none 0 0] := Blk.new rfl; have cO := kO.cell; have fO := kO.froz)
        clear kO cO fO
        have hS := do_start hg hE1 hG
        clear hE1 hG hg
        obtain ⟨k2, k3, k4, k5, kO, hG, hg, hE, hlo, hhi⟩ := hS
        generalize hW : w1.alloc (.cells #[.slice A1 g.ns.length a1, .slice B1 g.us.length b1, .slice C1 g.rs.length c1] 26) = W at *
        clear hW
        generalize w1.heap.size = o at *
        clear w1
        have m2 := k2.cell
        have m3 := k3.cell
        have mO := kO.cell
        have f4 := k4.froz
        have f5 := k5.froz
        have n4 : w.heap.size + 1 + 1 ≠ o := by omega
        have n5 : w.heap.size + 1 + 1 + 1 ≠ o := by omega
        go_wp2_with (first | (go_at_call 33; refine (fail_any _ g _ _ (hg.ext (by (repeat (first | (with_reducible exact Ext.refl _) | assumption | (with_reducible refine Ext.alloc ?_ _) | (with_reducible refine Ext.drew ?_) | (with_reducible refine Ext.drewL ?_) | refine Ext.trans ?_ (by assumption)))))).mono ?_; rintro e w1 ⟨rfl, hEf⟩; have hE2 : Ext W w1 := (by (repeat (first | (with_reducible exact Ext.refl _) | assumption | (with_reducible refine Ext.alloc ?_ _) | (with_reducible refine Ext.drew ?_) | (with_reducible refine Ext.drewL ?_) | refine Ext.trans ?_ (by assumption)))); have m4' := (k4.ext hE2).cell; have m5' := (k5.ext hE2).cell; have f4' := (k4.ext hE2).froz; have f5' := (k5.ext hE2).froz) | (go_at_call 35; refine (handle_any _ g _ _ _ (hg.ext (by (repeat (first | (with_reducible exact Ext.refl _) | assumption | (with_reducible refine Ext.alloc ?_ _) | (with_reducible refine Ext.drew ?_) | (with_reducible refine Ext.drewL ?_) | refine Ext.trans ?_ (by assumption))))) hlu.out).mono ?_; rintro e w1 ⟨rfl, hE3⟩; have hE4 : Ext W w1 := (by (repeat (first | (with_reducible exact Ext.refl _) | assumption | (with_reducible refine Ext.alloc ?_ _) | (with_reducible refine Ext.drew ?_) | (with_reducible refine Ext.drewL ?_) | refine Ext.trans ?_ (by assumption)))); have m2' := (k2.ext hE4).cell; have m3' := (k3.ext hE4).cell; have mO' := (kO.ext hE4).cell))
        refine wp_region_ext [(true, 0), (true, 1), (true, 2), (true, 4), (true, 5), (true, 6), (false, 3), (false, 7), (true, 8)] Try.mixed (by kernel_rfl) (by simp only [pick, List.filterMap_cons, List.filterMap_nil, List.getElem?_toArray, List.getElem?_cons_succ, List.getElem?_cons_zero, Option.map_some]; rfl) ?_
        intro hx
        repeat (first
          | (refine wpL_take hx (v := ?_) (by rfl) (fun _ hc => ?_) ?_
             rotate_left
             focus (go_simp; (try go_ints); exact rfl)
             simp only [Act.put, List.setIfInBounds_toArray, List.set_cons_zero, List.set_cons_succ])
          | (refine wpL_skip (by rfl) ?_; simp only [Act.put, List.setIfInBounds_toArray, List.set_cons_zero, List.set_cons_succ])
          | (refine wpL_call (by rfl) (fun K hK => ?_); go_simp; go_at_call 36; refine (node36_any _ g _ _ (hg.ext (by (repeat (first | (with_reducible exact Ext.refl _) | assumption | (with_reducible refine Ext.alloc ?_ _) | (with_reducible refine Ext.drew ?_) | (with_reducible refine Ext.drewL ?_) | refine Ext.trans ?_ (by assumption))))) hlr.out (by assumption)).mono ?_; rintro e w1 ⟨rfl, hE9⟩; refine hK _ _ (hE9) ?_; clear hK; intro hr; replace hx := hx.trans hr; clear hr; simp only [Act.put, List.setIfInBounds_toArray, List.set_cons_zero, List.set_cons_succ])
          | (refine wpL_call (by rfl) (fun K hK => ?_); go_simp; (first | (refine hK _ _ ?_ ?_; (focus ((repeat (first | (with_reducible exact Ext.refl _) | assumption | (with_reducible refine Ext.alloc ?_ _) | (with_reducible refine Ext.drew ?_) | (with_reducible refine Ext.drewL ?_) | refine Ext.trans ?_ (by assumption))); done))) | (refine hK undef _ ?_ ?_; (focus ((repeat (first | (with_reducible exact Ext.refl _) | assumption | (with_reducible refine Ext.alloc ?_ _) | (with_reducible refine Ext.drew ?_) | (with_reducible refine Ext.drewL ?_) | refine Ext.trans ?_ (by assumption))); done)))); clear hK; intro hr; replace hx := hx.trans hr; clear hr; try simp only [Act.put, List.setIfInBounds_toArray, List.set_cons_zero, List.set_cons_succ]))
        refine wpL_end ?_
        have hE7 : Ext W w1 := (by (repeat (first | (with_reducible exact Ext.refl _) | assumption | (with_reducible refine Ext.alloc ?_ _) | (with_reducible refine Ext.drew ?_) | (with_reducible refine Ext.drewL ?_) | refine Ext.trans ?_ (by assumption))))
        have m4 := (k4.ext hE7).cell
        have m5 := (k5.ext hE7).cell
        have mO' := (kO.ext hE7).cell
        have f4' := (k4.ext hE7).froz
        have f5' := (k5.ext hE7).froz
        go_wp2
        obtain ⟨cF4, cF5⟩ := fin5 (n := w.heap.size) (.slice A1 g.ns.length a1) (.slice B1 g.us.length b1) (.slice C1 g.rs.length c1) (.int .i64 0) (.int .u64 (0)) (k4.ext hE7) (k5.ext hE7)
        exact bodyPost_ret (v := .tuple #[.agg #[.slice A1 g.ns.length a1, .slice B1 g.us.length b1, .slice C1 g.rs.length c1], .agg #[.int .i64 0, .int .u64 (0)]]) (by simp [results, Try.results27, go_sem, cF4, cF5]) rfl ⟨_, rfl, own5 hSb (hG.ext hE7), ext5 (hE.trans hE7)⟩
    · have hb1 : (hErr g b false == 0) = false := by simpa using hbb
      have hb2 : (hErr g b false != 0) = true := by simpa using hbb
      have ht : doT g 6 a b d = (g, hErr g b false, 0) := by simp [doT, ha, hbb]
      rw [ht]
      clear ht ha hbb hv
      obtain ⟨A0, a0, B0, b0, C0, c0, rfl⟩ := hg.sl
      go_enter Try.func27, Try.ntmps27
      go_upto_region 2 with (go_at_call 32; refine (copy_any _ g _ (hg.ext (by (repeat (first | (with_reducible exact Ext.refl _) | assumption | (with_reducible refine Ext.alloc ?_ _) | (with_reducible refine Ext.drew ?_) | (with_reducible refine Ext.drewL ?_) | refine Ext.trans ?_ (by assumption))))) hb).mono ?_; rintro e w1 ⟨vA, vB, vC, qs, rfl, hG, hE1⟩; obtain ⟨A1, a1, rfl⟩ := own_slice hG.nodes; obtain ⟨B1, b1, rfl⟩ := own_slice hG.used; obtain ⟨C1, c1, rfl⟩ := own_slice hG.roots; have kO : Blk (w1.alloc (.cells #[.slice none 0 0, .slice none 0 0, .slice none 0 0] 26)) w1.heap.size 26 #[.slice none 0 0, .slice none 0 0, .slice none 0 0] := Blk.new rfl; have cO := kO.cell; have fO := kO.froz)
      clear kO cO fO
      have hS := do_start hg hE1 hG
      clear hE1 hG hg
      obtain ⟨k2, k3, k4, k5, kO, hG, hg, hE, hlo, hhi⟩ := hS
      generalize hW : w1.alloc (.cells #[.slice A1 g.ns.length a1, .slice B1 g.us.length b1, .slice C1 g.rs.length c1] 26) = W at *
      clear hW
      generalize w1.heap.size = o at *
      clear w1
      have m2 := k2.cell
      have m3 := k3.cell
      have mO := kO.cell
      have f4 := k4.froz
      have f5 := k5.froz
      have n4 : w.heap.size + 1 + 1 ≠ o := by omega
      have n5 : w.heap.size + 1 + 1 + 1 ≠ o := by omega
      go_wp2_with (first | (go_at_call 33; refine (fail_any _ g _ _ (hg.ext (by (repeat (first | (with_reducible exact Ext.refl _) | assumption | (with_reducible refine Ext.alloc ?_ _) | (with_reducible refine Ext.drew ?_) | (with_reducible refine Ext.drewL ?_) | refine Ext.trans ?_ (by assumption)))))).mono ?_; rintro e w1 ⟨rfl, hEf⟩; have hE2 : Ext W w1 := (by (repeat (first | (with_reducible exact Ext.refl _) | assumption | (with_reducible refine Ext.alloc ?_ _) | (with_reducible refine Ext.drew ?_) | (with_reducible refine Ext.drewL ?_) | refine Ext.trans ?_ (by assumption)))); have m4' := (k4.ext hE2).cell; have m5' := (k5.ext hE2).cell; have f4' := (k4.ext hE2).froz; have f5' := (k5.ext hE2).froz) | (go_at_call 35; refine (handle_any _ g _ _ _ (hg.ext (by (repeat (first | (with_reducible exact Ext.refl _) | assumption | (with_reducible refine Ext.alloc ?_ _) | (with_reducible refine Ext.drew ?_) | (with_reducible refine Ext.drewL ?_) | refine Ext.trans ?_ (by assumption))))) hlu.out).mono ?_; rintro e w1 ⟨rfl, hE3⟩; have hE4 : Ext W w1 := (by (repeat (first | (with_reducible exact Ext.refl _) | assumption | (with_reducible refine Ext.alloc ?_ _) | (with_reducible refine Ext.drew ?_) | (with_reducible refine Ext.drewL ?_) | refine Ext.trans ?_ (by assumption)))); have m2' := (k2.ext hE4).cell; have m3' := (k3.ext hE4).cell; have mO' := (kO.ext hE4).cell))
      obtain ⟨cF4, cF5⟩ := fin5 (n := w.heap.size) (.slice A0 g.ns.length a0) (.slice B0 g.us.length b0) (.slice C0 g.rs.length c0) (.int .i64 (hErr g b false)) (.int .u64 0) (k4.ext hE2) (k5.ext hE2)
      exact bodyPost_ret (v := .tuple #[.agg #[.slice A0 g.ns.length a0, .slice B0 g.us.length b0, .slice C0 g.rs.length c0], .agg #[.int .i64 (hErr g b false), .int .u64 0]]) (by simp [results, Try.results27, go_sem, cF4, cF5]) rfl ⟨_, rfl, hg0.ext (ext5 (hE.trans hE2)), ext5 (hE.trans hE2)⟩
  · have hb1 : (hErr g a false == 0) = false := by simpa using ha
    have hb2 : (hErr g a false != 0) = true := by simpa using ha
    have ht : doT g 6 a b d = (g, hErr g a false, 0) := by simp [doT, ha]
    rw [ht]
    clear ht ha hv
    obtain ⟨A0, a0, B0, b0, C0, c0, rfl⟩ := hg.sl
    go_enter Try.func27, Try.ntmps27
    go_upto_region 2 with (go_at_call 32; refine (copy_any _ g _ (hg.ext (by (repeat (first | (with_reducible exact Ext.refl _) | assumption | (with_reducible refine Ext.alloc ?_ _) | (with_reducible refine Ext.drew ?_) | (with_reducible refine Ext.drewL ?_) | refine Ext.trans ?_ (by assumption))))) hb).mono ?_; rintro e w1 ⟨vA, vB, vC, qs, rfl, hG, hE1⟩; obtain ⟨A1, a1, rfl⟩ := own_slice hG.nodes; obtain ⟨B1, b1, rfl⟩ := own_slice hG.used; obtain ⟨C1, c1, rfl⟩ := own_slice hG.roots; have kO : Blk (w1.alloc (.cells #[.slice none 0 0, .slice none 0 0, .slice none 0 0] 26)) w1.heap.size 26 #[.slice none 0 0, .slice none 0 0, .slice none 0 0] := Blk.new rfl; have cO := kO.cell; have fO := kO.froz)
    clear kO cO fO
    have hS := do_start hg hE1 hG
    clear hE1 hG hg
    obtain ⟨k2, k3, k4, k5, kO, hG, hg, hE, hlo, hhi⟩ := hS
    generalize hW : w1.alloc (.cells #[.slice A1 g.ns.length a1, .slice B1 g.us.length b1, .slice C1 g.rs.length c1] 26) = W at *
    clear hW
    generalize w1.heap.size = o at *
    clear w1
    have m2 := k2.cell
    have m3 := k3.cell
    have mO := kO.cell
    have f4 := k4.froz
    have f5 := k5.froz
    have n4 : w.heap.size + 1 + 1 ≠ o := by omega
    have n5 : w.heap.size + 1 + 1 + 1 ≠ o := by omega
    go_wp2_with (first | (go_at_call 33; refine (fail_any _ g _ _ (hg.ext (by (repeat (first | (with_reducible exact Ext.refl _) | assumption | (with_reducible refine Ext.alloc ?_ _) | (with_reducible refine Ext.drew ?_) | (with_reducible refine Ext.drewL ?_) | refine Ext.trans ?_ (by assumption)))))).mono ?_; rintro e w1 ⟨rfl, hEf⟩; have hE2 : Ext W w1 := (by (repeat (first | (with_reducible exact Ext.refl _) | assumption | (with_reducible refine Ext.alloc ?_ _) | (with_reducible refine Ext.drew ?_) | (with_reducible refine Ext.drewL ?_) | refine Ext.trans ?_ (by assumption)))); have m4' := (k4.ext hE2).cell; have m5' := (k5.ext hE2).cell; have f4' := (k4.ext hE2).froz; have f5' := (k5.ext hE2).froz) | (go_at_call 35; refine (handle_any _ g _ _ _ (hg.ext (by (repeat (first | (with_reducible exact Ext.refl _) | assumption | (with_reducible refine Ext.alloc ?_ _) | (with_reducible refine Ext.drew ?_) | (with_reducible refine Ext.drewL ?_) | refine Ext.trans ?_ (by assumption))))) hlu.out).mono ?_; rintro e w1 ⟨rfl, hE3⟩; have hE4 : Ext W w1 := (by (repeat (first | (with_reducible exact Ext.refl _) | assumption | (with_reducible refine Ext.alloc ?_ _) | (with_reducible refine Ext.drew ?_) | (with_reducible refine Ext.drewL ?_) | refine Ext.trans ?_ (by assumption)))); have m2' := (k2.ext hE4).cell; have m3' := (k3.ext hE4).cell; have mO' := (kO.ext hE4).cell))
    obtain ⟨cF4, cF5⟩ := fin5 (n := w.heap.size) (.slice A0 g.ns.length a0) (.slice B0 g.us.length b0) (.slice C0 g.rs.length c0) (.int .i64 (hErr g a false)) (.int .u64 0) (k4.ext hE2) (k5.ext hE2)
    exact bodyPost_ret (v := .tuple #[.agg #[.slice A0 g.ns.length a0, .slice B0 g.us.length b0, .slice C0 g.rs.length c0], .agg #[.int .i64 (hErr g a false), .int .u64 0]]) (by simp [results, Try.results27, go_sem, cF4, cF5]) rfl ⟨_, rfl, hg0.ext (ext5 (hE.trans hE2)), ext5 (hE.trans hE2)⟩

set_option maxRecDepth 100000 in
set_option maxHeartbeats 2000000 in
theorem do27_err (v : Value) (g : Gr) (c a b d : Int) (w : World) {S : List Nat} (hSb : ∀ x ∈ S, x < w.heap.size) (hg0 : GRx S w v g) (hv : Vld g) (hb : Bd g) (hc : c = 2 ∨ c = 3 ∨ c = 4 ∨ c = 5 ∨ c = 7 ∨ c = 9) (ha : hErr g a true ≠ 0) :
    Calls Try.prog 27 #[v, .agg #[.int .i64 c, .int .i64 a, .int .i64 b, .int .i64 d]] w (RetDo S w (g, hErr g a true, 0)) := by
  have hg := hg0.rd
  have hlu := Lib.hid hv.lu
  have hlr := Lib.hid hv.lr
  have hb1 : (hErr g a true == 0) = false := by simpa using ha
  have hb2 : (hErr g a true != 0) = true := by simpa using ha
  clear ha hv
  rcases hc with rfl | rfl | rfl | rfl | rfl | rfl
  all_goals
    obtain ⟨A0, a0, B0, b0, C0, c0, rfl⟩ := hg.sl
    go_enter Try.func27, Try.ntmps27
    go_upto_region 2 with (go_at_call 32; refine (copy_any _ g _ (hg.ext (by (repeat (first | (with_reducible exact Ext.refl _) | assumption | (with_reducible refine Ext.alloc ?_ _) | (with_reducible refine Ext.drew ?_) | (with_reducible refine Ext.drewL ?_) | refine Ext.trans ?_ (by assumption))))) hb).mono ?_; rintro e w1 ⟨vA, vB, vC, qs, rfl, hG, hE1⟩; obtain ⟨A1, a1, rfl⟩ := own_slice hG.nodes; obtain ⟨B1, b1, rfl⟩ := own_slice hG.used; obtain ⟨C1, c1, rfl⟩ := own_slice hG.roots; have kO : Blk (w1.alloc (.cells #[.slice none 0 0, .slice none 0 0, .slice none 0 0] 26)) w1.heap.size 26 #[.slice none 0 0, .slice none 0 0, .slice none 0 0] := Blk.new rfl; have cO := kO.cell; have fO := kO.froz)
    clear kO cO fO
    have hS := do_start hg hE1 hG
    clear hE1 hG hg
    obtain ⟨k2, k3, k4, k5, kO, hG, hg, hE, hlo, hhi⟩ := hS
    generalize hW : w1.alloc (.cells #[.slice A1 g.ns.length a1, .slice B1 g.us.length b1, .slice C1 g.rs.length c1] 26) = W at *
    clear hW
    generalize w1.heap.size = o at *
    clear w1
    have m2 := k2.cell
    have m3 := k3.cell
    have mO := kO.cell
    have f4 := k4.froz
    have f5 := k5.froz
    have n4 : w.heap.size + 1 + 1 ≠ o := by omega
    have n5 : w.heap.size + 1 + 1 + 1 ≠ o := by omega
    go_wp2_with (first | (go_at_call 33; refine (fail_any _ g _ _ (hg.ext (by (repeat (first | (with_reducible exact Ext.refl _) | assumption | (with_reducible refine Ext.alloc ?_ _) | (with_reducible refine Ext.drew ?_) | (with_reducible refine Ext.drewL ?_) | refine Ext.trans ?_ (by assumption)))))).mono ?_; rintro e w1 ⟨rfl, hEf⟩; have hE2 : Ext W w1 := (by (repeat (first | (with_reducible exact Ext.refl _) | assumption | (with_reducible refine Ext.alloc ?_ _) | (with_reducible refine Ext.drew ?_) | (with_reducible refine Ext.drewL ?_) | refine Ext.trans ?_ (by assumption)))); have m4' := (k4.ext hE2).cell; have m5' := (k5.ext hE2).cell; have f4' := (k4.ext hE2).froz; have f5' := (k5.ext hE2).froz) | (go_at_call 35; refine (handle_any _ g _ _ _ (hg.ext (by (repeat (first | (with_reducible exact Ext.refl _) | assumption | (with_reducible refine Ext.alloc ?_ _) | (with_reducible refine Ext.drew ?_) | (with_reducible refine Ext.drewL ?_) | refine Ext.trans ?_ (by assumption))))) hlu.out).mono ?_; rintro e w1 ⟨rfl, hE3⟩; have hE4 : Ext W w1 := (by (repeat (first | (with_reducible exact Ext.refl _) | assumption | (with_reducible refine Ext.alloc ?_ _) | (with_reducible refine Ext.drew ?_) | (with_reducible refine Ext.drewL ?_) | refine Ext.trans ?_ (by assumption)))); have m2' := (k2.ext hE4).cell; have m3' := (k3.ext hE4).cell; have mO' := (kO.ext hE4).cell))
    obtain ⟨cF4, cF5⟩ := fin5 (n := w.heap.size) (.slice A0 g.ns.length a0) (.slice B0 g.us.length b0) (.slice C0 g.rs.length c0) (.int .i64 (hErr g a true)) (.int .u64 0) (k4.ext hE2) (k5.ext hE2)
    exact bodyPost_ret (v := .tuple #[.agg #[.slice A0 g.ns.length a0, .slice B0 g.us.length b0, .slice C0 g.rs.length c0], .agg #[.int .i64 (hErr g a true), .int .u64 0]]) (by simp [results, Try.results27, go_sem, cF4, cF5]) rfl ⟨_, rfl, hg0.ext (ext5 (hE.trans hE2)), ext5 (hE.trans hE2)⟩
end Go.Proofs.Ytamghjilcfeheaa
