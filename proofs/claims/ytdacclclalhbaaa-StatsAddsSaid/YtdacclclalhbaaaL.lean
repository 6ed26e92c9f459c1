/- The walk of the law StatsAdds. Conditions: the ranges that each theorem states. -/
import Derived.Test.YtdacclclalhbaaaG
import Derived.Test.YtdacclclalhbaaaK
import Derived.Test.YtdacclclalhbaaaTree
namespace Go.Proofs.Ytdacclclalhbaaa
open Go.RowKit Go.Draw

theorem fmin_run (x y : Nat) (hx : x < infW) (hy : y < infW) (ats : Array TypeId) (ty : TypeId) (w : World) : (Builtin.min_ ats ty #[.float .f64 x, .float .f64 y]).run Try.prog w = .ok (.float .f64 (min x y)) w := by
  rcases Nat.lt_trichotomy x y with h | h | h
  · have o := cmp_lt (Nat.le_of_lt hx) (Nat.le_of_lt hy) h
    simp [Builtin.min_, Builtin.min2, o, Nat.min_eq_left (Nat.le_of_lt h)]
  · subst h
    have o := cmp_eq (Nat.le_of_lt hx)
    simp [Builtin.min_, Builtin.min2, o]
  · have o := cmp_gt (Nat.le_of_lt hx) (Nat.le_of_lt hy) h
    simp [Builtin.min_, Builtin.min2, o, Nat.min_eq_right (Nat.le_of_lt h)]
theorem fmax_run (x y : Nat) (hx : x < infW) (hy : y < infW) (ats : Array TypeId) (ty : TypeId) (w : World) : (Builtin.max_ ats ty #[.float .f64 x, .float .f64 y]).run Try.prog w = .ok (.float .f64 (max x y)) w := by
  rcases Nat.lt_trichotomy x y with h | h | h
  · have o := cmp_lt (Nat.le_of_lt hx) (Nat.le_of_lt hy) h
    simp [Builtin.max_, Builtin.max2, o, Nat.max_eq_right (Nat.le_of_lt h)]
  · subst h
    have o := cmp_eq (Nat.le_of_lt hx)
    simp [Builtin.max_, Builtin.max2, o]
  · have o := cmp_gt (Nat.le_of_lt hx) (Nat.le_of_lt hy) h
    simp [Builtin.max_, Builtin.max2, o, Nat.max_eq_left (Nat.le_of_lt h)]
/-- survival, where some were condemned -/
theorem surv_fin (x0 x1 x2 x3 x4 x5 x6 x7 x8 : Int) (w : World) (h0 : Cnt x0) (h1 : Cnt x1) (h2 : Cnt x2) (h3 : Cnt x3) (h4 : Cnt x4) (h5 : Cnt x5) (h6 : Cnt x6) (h7 : Cnt x7) (h8 : Cnt x8) (hp : 0 < x5) :
    Calls Try.prog 16 #[.agg #[.int .i64 x0, .int .i64 x1, .int .i64 x2, .int .i64 x3, .int .i64 x4, .int .i64 x5, .int .i64 x6, .int .i64 x7, .int .i64 x8]] w fun e w' => e = .returned (.float .f64 (quoW x6.toNat x5.toNat)) ∧ Ext w w' := by
  refine (surv_any (nine x0 x1 x2 x3 x4 x5 x6 x7 x8) w (cnts_nine h0 h1 h2 h3 h4 h5 h6 h7 h8)).mono ?_
  rintro e w' ⟨r, rfl, hr, hE⟩
  have hk : survK (nine x0 x1 x2 x3 x4 x5 x6 x7 x8) = quoW x6.toNat x5.toNat := rfl
  rw [hk] at hr
  have hf := quo_fin (a := x6.toNat) (b := x5.toNat) (by have := h6.2; omega) (by omega) (by have := h5.2; omega)
  rcases hr with ⟨_, rfl⟩ | ⟨h, _⟩
  · exact ⟨rfl, hE⟩
  · omega
theorem sum_ex (x0 x1 x2 x3 x4 x5 x6 x7 x8 y0 y1 y2 y3 y4 y5 y6 y7 y8 : Int) (w : World) (hf : Fits (nine x0 x1 x2 x3 x4 x5 x6 x7 x8) (nine y0 y1 y2 y3 y4 y5 y6 y7 y8)) :
    Calls Try.prog 15 #[.agg #[.int .i64 x0, .int .i64 x1, .int .i64 x2, .int .i64 x3, .int .i64 x4, .int .i64 x5, .int .i64 x6, .int .i64 x7, .int .i64 x8], .agg #[.int .i64 y0, .int .i64 y1, .int .i64 y2, .int .i64 y3, .int .i64 y4, .int .i64 y5, .int .i64 y6, .int .i64 y7, .int .i64 y8]] w fun e w' =>
      e = .returned (.agg #[.int .i64 (x0 + y0), .int .i64 (x1 + y1), .int .i64 (x2 + y2), .int .i64 (x3 + y3), .int .i64 (x4 + y4), .int .i64 (x5 + y5), .int .i64 (x6 + y6), .int .i64 (x7 + y7), .int .i64 (x8 + y8)]) ∧ Ext w w' :=
  sum_any (nine x0 x1 x2 x3 x4 x5 x6 x7 x8) (nine y0 y1 y2 y3 y4 y5 y6 y7 y8) w hf
/-- counts of a half -/
def Qs (a : Nat → Int) : Prop := ∀ i, i < 9 → 0 ≤ a i ∧ a i ≤ 549755813888
theorem qs_less {a : Nat → Int} (h : Cnts a) : Qs (less9 a) := fun i hi => by
  obtain ⟨h1, h2⟩ := h i hi
  unfold less9
  omega
theorem qs_less2 {a b : Nat → Int} (h : Cnts a) (k : Cnts b) : Qs (add9 (less9 a) (less9 b)) := fun i hi => by
  obtain ⟨h1, h2⟩ := h i hi
  obtain ⟨h3, h4⟩ := k i hi
  unfold add9 less9
  omega
theorem fits_q {a b : Nat → Int} (ha : Qs a) (hb : Qs b) : Fits a b := fun i hi => by
  have := ha i hi; have := hb i hi; omega
theorem add9_assoc (a b c : Nat → Int) : add9 a (add9 b c) = add9 (add9 a b) c := by funext i; simp [add9, Int.add_assoc]
theorem neq_st (s : Nat → Int) (w : World) : (binOp .neq 28 (.agg (stV s)) (.agg (stV s))).run Try.prog w = .ok (.bool false) w := by
  simp only [stV]
  go_simp

set_option maxRecDepth 100000 in
set_option maxHeartbeats 4000000 in
theorem adds_any (A : Option Addr) (n c : Nat) (zs : List Int) (w : World) (hz : Rd w A n 1 (ints zs)) (hn : n ≤ 9223372036854775807) :
    Calls Try.prog 4 #[.slice A n c] w fun r w' => r = .returned (.bool true) ∧ Ext w w' := by
  go_enter Try.func4, Try.ntmps4
  go_wp2_with fail
  go_at_call 6
  refine (deck_any A n c zs _ hz hn).mono ?_
  rintro e w1 ⟨rfl, hD, hE1⟩
  go_wp2_with fail
  go_at_call 8
  refine (counts_any _ _ hD).mono ?_
  rintro e w2 ⟨a0, rfl, hca, hD, hB1⟩
  go_wp2_with fail
  go_at_call 14
  refine (less_any a0 _ hca).mono ?_
  rintro e w3 ⟨rfl, hE3⟩
  have hD := hD.ext hE3
  go_wp2_with fail
  go_at_call 8
  refine (counts_any _ _ hD).mono ?_
  rintro e w4 ⟨b0, rfl, hcb, hD, hB4⟩
  go_wp2_with fail
  go_at_call 14
  refine (less_any b0 _ hcb).mono ?_
  rintro e w5 ⟨rfl, hE5⟩
  have hD := hD.ext hE5
  go_wp2_with fail
  go_at_call 8
  refine (counts_any _ _ hD).mono ?_
  rintro e w6 ⟨c0, rfl, hcc, hD, hB6⟩
  go_wp2_with fail
  go_at_call 14
  refine (less_any c0 _ hcc).mono ?_
  rintro e w7 ⟨rfl, hE7⟩
  have hE : Ext w w7 := Ext.trans (But.ext (Ext.trans (But.ext (Ext.trans (But.ext hE1 hB1 (by simp)) hE3) hB4 (by simp)) hE5) hB6 (by simp)) hE7
  have qa := qs_less hca
  have qb := qs_less hcb
  have qc := qs_less hcc
  have qab := qs_less2 hca hcb
  have qbc := qs_less2 hcb hcc
  generalize less9 a0 = a at *
  generalize less9 b0 = b at *
  generalize less9 c0 = d at *
  clear hca hcb hcc hD hB1 hB4 hB6 hE1 hE3 hE5 hE7 hz
  have ka : Blk (((w7.alloc (.cells (stV a) 28)).alloc (.cells (stV b) 28)).alloc (.cells (stV d) 28)) w7.heap.size 28 (stV a) := Blk.alloc (Blk.alloc (Blk.new rfl) _) _
  have kb : Blk (((w7.alloc (.cells (stV a) 28)).alloc (.cells (stV b) 28)).alloc (.cells (stV d) 28)) (w7.heap.size + 1) 28 (stV b) := Blk.alloc (Blk.new (by simp)) _
  have kd : Blk (((w7.alloc (.cells (stV a) 28)).alloc (.cells (stV b) 28)).alloc (.cells (stV d) 28)) (w7.heap.size + 1 + 1) 28 (stV d) := Blk.new (by simp)
  have ca := ka.cell
  have cb := kb.cell
  have cd := kd.cell
  simp only [stV] at ca cb cd ⊢
  go_upto_region 3 with fail
  have hneq := neq_st (add9 (add9 a b) d)
  have has := add9_assoc a b d
  refine wp_region_ext [(true, 0), (true, 1), (true, 3), (true, 5), (true, 6), (true, 7), (false, 2), (false, 4), (false, 8), (false, 9), (true, 10)] Try.mixed (by kernel_rfl) (by simp only [pick, List.filterMap_cons, List.filterMap_nil, List.getElem?_toArray, List.getElem?_cons_succ, List.getElem?_cons_zero, Option.map_some]; rfl) ?_
  intro hx
  repeat (first
    | (refine wpL_take hx (v := ?_) (by rfl) (fun _ hc => ?_) ?_
       rotate_left
       focus (go_simp; (try go_ints); exact rfl)
       simp only [Act.put, List.setIfInBounds_toArray, List.set_cons_zero, List.set_cons_succ])
    | (refine wpL_skip (by rfl) ?_; simp only [Act.put, List.setIfInBounds_toArray, List.set_cons_zero, List.set_cons_succ])
    | (refine wpL_call (by rfl) (fun K hK => ?_); go_simp; go_at_call 15; refine (sum_any _ _ _ (fits_q (by assumption) (by assumption))).mono ?_; rintro e w1 ⟨rfl, hE6⟩; (try rw [has]); refine hK _ _ (hE6) ?_; clear hK; intro hr; replace hx := hx.trans hr; clear hr; simp only [Act.put, List.setIfInBounds_toArray, List.set_cons_zero, List.set_cons_succ])
    | (refine wpL_call (by rfl) (fun K hK => ?_); go_simp; (first | (refine hK _ _ ?_ ?_; (focus ((repeat (first | (with_reducible exact Ext.refl _) | assumption | (with_reducible refine Ext.alloc ?_ _) | (with_reducible refine Ext.drew ?_) | (with_reducible refine Ext.drewL ?_) | refine Ext.trans ?_ (by assumption))); done))) | (refine hK undef _ ?_ ?_; (focus ((repeat (first | (with_reducible exact Ext.refl _) | assumption | (with_reducible refine Ext.alloc ?_ _) | (with_reducible refine Ext.drew ?_) | (with_reducible refine Ext.drewL ?_) | refine Ext.trans ?_ (by assumption))); done)))); clear hK; intro hr; replace hx := hx.trans hr; clear hr; try simp only [Act.put, List.setIfInBounds_toArray, List.set_cons_zero, List.set_cons_succ]))
  refine wpL_end ?_
  have hX : Ext (((w7.alloc (.cells (stV a) 28)).alloc (.cells (stV b) 28)).alloc (.cells (stV d) 28)) w1 := by
    simp only [stV]
    (repeat (first | (with_reducible exact Ext.refl _) | assumption | (with_reducible refine Ext.alloc ?_ _) | (with_reducible refine Ext.drew ?_) | (with_reducible refine Ext.drewL ?_) | refine Ext.trans ?_ (by assumption)))
  have ka := ka.ext hX
  have kb := kb.ext hX
  have hE0 := hE
  have hE : Ext w w1 := by
    refine Ext.trans (Ext.alloc (Ext.alloc (Ext.alloc hE _) _) _) hX
  have ca := ka.cell
  have cb := kb.cell
  have fa := ka.froz
  have fb := kb.froz
  have la := ka.lt
  have lb := kb.lt
  simp only [stV] at ca cb
  obtain ⟨a50, _⟩ := qa 5 (by omega)
  obtain ⟨b50, _⟩ := qb 5 (by omega)
  have r1 : (a 5).tmod 1000 = a 5 % 1000 := Int.tmod_eq_emod_of_nonneg a50
  have r2 : (b 5).tmod 1000 = b 5 % 1000 := Int.tmod_eq_emod_of_nonneg b50
  obtain ⟨x5, hx5, hx5l⟩ : ∃ x : Nat, a 5 % 1000 = (x : Int) ∧ x < 1000 := ⟨(a 5 % 1000).toNat, by omega, by omega⟩
  obtain ⟨y5, hy5, hy5l⟩ : ∃ x : Nat, b 5 % 1000 = (x : Int) ∧ x < 1000 := ⟨(b 5 % 1000).toNat, by omega, by omega⟩
  rw [hx5] at r1
  rw [hy5] at r2
  have hne : w7.heap.size ≠ w7.heap.size + 1 := by omega
  clear hX kd cd hneq has hx
  have hfin := And.intro (((ka.set_ 5 (.int .i64 (1 + (x5 : Int)))).far (p := ⟨w7.heap.size + 1, 5, none⟩) hne (.int .i64 (1 + (y5 : Int)))).drew) (And.intro (((kb.far (p := ⟨w7.heap.size, 5, none⟩) (Ne.symm hne) (.int .i64 (1 + (x5 : Int)))).set_ 5 (.int .i64 (1 + (y5 : Int)))).drew)
    (Ext.drew (Ext.setCell (Ext.setCell hE (p := ⟨w7.heap.size, 5, none⟩) (by show w.heap.size ≤ w7.heap.size; exact hE0.size_le) (.int .i64 (1 + (x5 : Int)))) (p := ⟨w7.heap.size + 1, 5, none⟩) (by show w.heap.size ≤ w7.heap.size + 1; have := hE0.size_le; omega) (.int .i64 (1 + (y5 : Int))))))
  simp only [stV, List.setIfInBounds_toArray, List.set_cons_zero, List.set_cons_succ] at hfin
  go_upto_region 5 with fail
  go_cut [] (fun wx => Blk wx w7.heap.size 28 #[.int .i64 (a 0), .int .i64 (a 1), .int .i64 (a 2), .int .i64 (a 3), .int .i64 (a 4), .int .i64 (1 + x5), .int .i64 (a 6), .int .i64 (a 7), .int .i64 (a 8)] ∧ Blk wx (w7.heap.size + 1) 28 #[.int .i64 (b 0), .int .i64 (b 1), .int .i64 (b 2), .int .i64 (b 3), .int .i64 (b 4), .int .i64 (1 + y5), .int .i64 (b 6), .int .i64 (b 7), .int .i64 (b 8)] ∧ Ext w wx)
  case first =>
    clear qa qb qc qab qbc hE hE0 hx5 hy5 a50 b50 ka kb
    have Hfin := Lib.hid hfin
    clear hfin
    refine wp_region_treeB [w7.heap.size, w7.heap.size + 1] (.take 0 (.take 4 (.alt 1 (.take 2 (.take 3 (.take 8 (.alt 5 (.take 6 (.take 7 (.alt 9 (.take 10 (.alt 11 .done .none)) .none))) (.alt 9 (.alt 5 (.take 6 (.take 7 (.take 10 (.alt 11 .done .none)))) .none) .none))))) (.alt 5 (.take 6 (.take 7 (.alt 1 (.take 2 (.take 3 (.take 8 (.alt 9 (.take 10 (.alt 11 .done .none)) .none)))) .none))) .none)))) Try.mixed (by kernel_rfl) ?_
    intro hx hy
    first
      | (refine wpT_takeB hx (v := ?_) (List.getElem?_toArray.trans (by rfl)) (by rfl) (fun _ hc => ?_) ?_
         rotate_left
         focus (go_simp; (try go_ints); exact rfl)
         simp only [Act.put, List.setIfInBounds_toArray, List.set_cons_zero, List.set_cons_succ])
      | (refine wpT_skip (List.getElem?_toArray.trans (by rfl)) (by rfl) ?_; simp only [Act.put, List.setIfInBounds_toArray, List.set_cons_zero, List.set_cons_succ])
    first
      | (refine wpT_takeB hx (v := ?_) (List.getElem?_toArray.trans (by rfl)) (by rfl) (fun _ hc => ?_) ?_
         rotate_left
         focus (go_simp; (try go_ints); exact rfl)
         simp only [Act.put, List.setIfInBounds_toArray, List.set_cons_zero, List.set_cons_succ])
      | (refine wpT_skip (List.getElem?_toArray.trans (by rfl)) (by rfl) ?_; simp only [Act.put, List.setIfInBounds_toArray, List.set_cons_zero, List.set_cons_succ])
    refine wpT_call (List.getElem?_toArray.trans (by rfl)) (by rfl) (fun K hK => ?_) ?_
    · skip
      have hcy := Ext.cell hy
      have hfy := Ext.froz hy
      go_simp
      first | (refine hK _ _ ?_ ?_; (focus ((repeat (first | (with_reducible exact But.refl _ _) | assumption | (with_reducible refine But.drew ?_) | (with_reducible refine But.drewL ?_) | (with_reducible refine But.setCell ?_ ?_ _; rotate_left; (focus (simp; done))) | (with_reducible refine But.setCellL ?_ ?_; rotate_left; (focus (simp; done))) | (with_reducible refine But.alloc2 ?_ ?_; rotate_left; (focus (simp [World.setCell]; done))) | (with_reducible refine But.allocL ?_ ?_ ?_; rotate_left; (focus (simp; done)); (focus (simp; done))) | (with_reducible refine But.alloc ?_ _))); done))) | (refine hK undef _ ?_ ?_; (focus ((repeat (first | (with_reducible exact But.refl _ _) | assumption | (with_reducible refine But.drew ?_) | (with_reducible refine But.drewL ?_) | (with_reducible refine But.setCell ?_ ?_ _; rotate_left; (focus (simp; done))) | (with_reducible refine But.setCellL ?_ ?_; rotate_left; (focus (simp; done))) | (with_reducible refine But.alloc2 ?_ ?_; rotate_left; (focus (simp [World.setCell]; done))) | (with_reducible refine But.allocL ?_ ?_ ?_; rotate_left; (focus (simp; done)); (focus (simp; done))) | (with_reducible refine But.alloc ?_ _))); done)))
      clear hK
      intro hr
      replace hx := hx.trans hr
      clear hr
      try simp only [Act.put, List.setIfInBounds_toArray, List.set_cons_zero, List.set_cons_succ]
      first
        | (refine wpT_takeB hx (v := ?_) (List.getElem?_toArray.trans (by rfl)) (by rfl) (fun _ hc => ?_) ?_
           rotate_left
           focus (go_simp; (try go_ints); exact rfl)
           simp only [Act.put, List.setIfInBounds_toArray, List.set_cons_zero, List.set_cons_succ])
        | (refine wpT_skip (List.getElem?_toArray.trans (by rfl)) (by rfl) ?_; simp only [Act.put, List.setIfInBounds_toArray, List.set_cons_zero, List.set_cons_succ])
      first
        | (refine wpT_takeB hx (v := ?_) (List.getElem?_toArray.trans (by rfl)) (by rfl) (fun _ hc => ?_) ?_
           rotate_left
           focus (go_simp; (try go_ints); exact rfl)
           simp only [Act.put, List.setIfInBounds_toArray, List.set_cons_zero, List.set_cons_succ])
        | (refine wpT_skip (List.getElem?_toArray.trans (by rfl)) (by rfl) ?_; simp only [Act.put, List.setIfInBounds_toArray, List.set_cons_zero, List.set_cons_succ])
      first
        | (refine wpT_takeB hx (v := ?_) (List.getElem?_toArray.trans (by rfl)) (by rfl) (fun _ hc => ?_) ?_
           rotate_left
           focus (go_simp; (try go_ints); exact rfl)
           simp only [Act.put, List.setIfInBounds_toArray, List.set_cons_zero, List.set_cons_succ])
        | (refine wpT_skip (List.getElem?_toArray.trans (by rfl)) (by rfl) ?_; simp only [Act.put, List.setIfInBounds_toArray, List.set_cons_zero, List.set_cons_succ])
      refine wpT_call (List.getElem?_toArray.trans (by rfl)) (by rfl) (fun K hK => ?_) ?_
      · skip
        have hcy := Ext.cell hy
        have hfy := Ext.froz hy
        go_simp
        first | (refine hK _ _ ?_ ?_; (focus ((repeat (first | (with_reducible exact But.refl _ _) | assumption | (with_reducible refine But.drew ?_) | (with_reducible refine But.drewL ?_) | (with_reducible refine But.setCell ?_ ?_ _; rotate_left; (focus (simp; done))) | (with_reducible refine But.setCellL ?_ ?_; rotate_left; (focus (simp; done))) | (with_reducible refine But.alloc2 ?_ ?_; rotate_left; (focus (simp [World.setCell]; done))) | (with_reducible refine But.allocL ?_ ?_ ?_; rotate_left; (focus (simp; done)); (focus (simp; done))) | (with_reducible refine But.alloc ?_ _))); done))) | (refine hK undef _ ?_ ?_; (focus ((repeat (first | (with_reducible exact But.refl _ _) | assumption | (with_reducible refine But.drew ?_) | (with_reducible refine But.drewL ?_) | (with_reducible refine But.setCell ?_ ?_ _; rotate_left; (focus (simp; done))) | (with_reducible refine But.setCellL ?_ ?_; rotate_left; (focus (simp; done))) | (with_reducible refine But.alloc2 ?_ ?_; rotate_left; (focus (simp [World.setCell]; done))) | (with_reducible refine But.allocL ?_ ?_ ?_; rotate_left; (focus (simp; done)); (focus (simp; done))) | (with_reducible refine But.alloc ?_ _))); done)))
        clear hK
        intro hr
        replace hx := hx.trans hr
        clear hr
        try simp only [Act.put, List.setIfInBounds_toArray, List.set_cons_zero, List.set_cons_succ]
        first
          | (refine wpT_takeB hx (v := ?_) (List.getElem?_toArray.trans (by rfl)) (by rfl) (fun _ hc => ?_) ?_
             rotate_left
             focus (go_simp; (try go_ints); exact rfl)
             simp only [Act.put, List.setIfInBounds_toArray, List.set_cons_zero, List.set_cons_succ])
          | (refine wpT_skip (List.getElem?_toArray.trans (by rfl)) (by rfl) ?_; simp only [Act.put, List.setIfInBounds_toArray, List.set_cons_zero, List.set_cons_succ])
        first
          | (refine wpT_takeB hx (v := ?_) (List.getElem?_toArray.trans (by rfl)) (by rfl) (fun _ hc => ?_) ?_
             rotate_left
             focus (go_simp; (try go_ints); exact rfl)
             simp only [Act.put, List.setIfInBounds_toArray, List.set_cons_zero, List.set_cons_succ])
          | (refine wpT_skip (List.getElem?_toArray.trans (by rfl)) (by rfl) ?_; simp only [Act.put, List.setIfInBounds_toArray, List.set_cons_zero, List.set_cons_succ])
        refine wpT_call (List.getElem?_toArray.trans (by rfl)) (by rfl) (fun K hK => ?_) ?_
        · skip
          have hcy := Ext.cell hy
          have hfy := Ext.froz hy
          go_simp
          first | (refine hK _ _ ?_ ?_; (focus ((repeat (first | (with_reducible exact But.refl _ _) | assumption | (with_reducible refine But.drew ?_) | (with_reducible refine But.drewL ?_) | (with_reducible refine But.setCell ?_ ?_ _; rotate_left; (focus (simp; done))) | (with_reducible refine But.setCellL ?_ ?_; rotate_left; (focus (simp; done))) | (with_reducible refine But.alloc2 ?_ ?_; rotate_left; (focus (simp [World.setCell]; done))) | (with_reducible refine But.allocL ?_ ?_ ?_; rotate_left; (focus (simp; done)); (focus (simp; done))) | (with_reducible refine But.alloc ?_ _))); done))) | (refine hK undef _ ?_ ?_; (focus ((repeat (first | (with_reducible exact But.refl _ _) | assumption | (with_reducible refine But.drew ?_) | (with_reducible refine But.drewL ?_) | (with_reducible refine But.setCell ?_ ?_ _; rotate_left; (focus (simp; done))) | (with_reducible refine But.setCellL ?_ ?_; rotate_left; (focus (simp; done))) | (with_reducible refine But.alloc2 ?_ ?_; rotate_left; (focus (simp [World.setCell]; done))) | (with_reducible refine But.allocL ?_ ?_ ?_; rotate_left; (focus (simp; done)); (focus (simp; done))) | (with_reducible refine But.alloc ?_ _))); done)))
          clear hK
          intro hr
          replace hx := hx.trans hr
          clear hr
          try simp only [Act.put, List.setIfInBounds_toArray, List.set_cons_zero, List.set_cons_succ]
          first
            | (refine wpT_takeB hx (v := ?_) (List.getElem?_toArray.trans (by rfl)) (by rfl) (fun _ hc => ?_) ?_
               rotate_left
               focus (go_simp; (try go_ints); exact rfl)
               simp only [Act.put, List.setIfInBounds_toArray, List.set_cons_zero, List.set_cons_succ])
            | (refine wpT_skip (List.getElem?_toArray.trans (by rfl)) (by rfl) ?_; simp only [Act.put, List.setIfInBounds_toArray, List.set_cons_zero, List.set_cons_succ])
          refine wpT_call (List.getElem?_toArray.trans (by rfl)) (by rfl) (fun K hK => ?_) ?_
          · skip
            have hcy := Ext.cell hy
            have hfy := Ext.froz hy
            go_simp
            first | (refine hK _ _ ?_ ?_; (focus ((repeat (first | (with_reducible exact But.refl _ _) | assumption | (with_reducible refine But.drew ?_) | (with_reducible refine But.drewL ?_) | (with_reducible refine But.setCell ?_ ?_ _; rotate_left; (focus (simp; done))) | (with_reducible refine But.setCellL ?_ ?_; rotate_left; (focus (simp; done))) | (with_reducible refine But.alloc2 ?_ ?_; rotate_left; (focus (simp [World.setCell]; done))) | (with_reducible refine But.allocL ?_ ?_ ?_; rotate_left; (focus (simp; done)); (focus (simp; done))) | (with_reducible refine But.alloc ?_ _))); done))) | (refine hK undef _ ?_ ?_; (focus ((repeat (first | (with_reducible exact But.refl _ _) | assumption | (with_reducible refine But.drew ?_) | (with_reducible refine But.drewL ?_) | (with_reducible refine But.setCell ?_ ?_ _; rotate_left; (focus (simp; done))) | (with_reducible refine But.setCellL ?_ ?_; rotate_left; (focus (simp; done))) | (with_reducible refine But.alloc2 ?_ ?_; rotate_left; (focus (simp [World.setCell]; done))) | (with_reducible refine But.allocL ?_ ?_ ?_; rotate_left; (focus (simp; done)); (focus (simp; done))) | (with_reducible refine But.alloc ?_ _))); done)))
            clear hK
            intro hr
            replace hx := hx.trans hr
            clear hr
            try simp only [Act.put, List.setIfInBounds_toArray, List.set_cons_zero, List.set_cons_succ]
            refine wpT_done ?_
            go_wp2
            go_meet
            exact Hfin.out
          exact wpT_none
        exact wpT_none
      refine wpT_call (List.getElem?_toArray.trans (by rfl)) (by rfl) (fun K hK => ?_) ?_
      · skip
        have hcy := Ext.cell hy
        have hfy := Ext.froz hy
        go_simp
        first | (refine hK _ _ ?_ ?_; (focus ((repeat (first | (with_reducible exact But.refl _ _) | assumption | (with_reducible refine But.drew ?_) | (with_reducible refine But.drewL ?_) | (with_reducible refine But.setCell ?_ ?_ _; rotate_left; (focus (simp; done))) | (with_reducible refine But.setCellL ?_ ?_; rotate_left; (focus (simp; done))) | (with_reducible refine But.alloc2 ?_ ?_; rotate_left; (focus (simp [World.setCell]; done))) | (with_reducible refine But.allocL ?_ ?_ ?_; rotate_left; (focus (simp; done)); (focus (simp; done))) | (with_reducible refine But.alloc ?_ _))); done))) | (refine hK undef _ ?_ ?_; (focus ((repeat (first | (with_reducible exact But.refl _ _) | assumption | (with_reducible refine But.drew ?_) | (with_reducible refine But.drewL ?_) | (with_reducible refine But.setCell ?_ ?_ _; rotate_left; (focus (simp; done))) | (with_reducible refine But.setCellL ?_ ?_; rotate_left; (focus (simp; done))) | (with_reducible refine But.alloc2 ?_ ?_; rotate_left; (focus (simp [World.setCell]; done))) | (with_reducible refine But.allocL ?_ ?_ ?_; rotate_left; (focus (simp; done)); (focus (simp; done))) | (with_reducible refine But.alloc ?_ _))); done)))
        clear hK
        intro hr
        replace hx := hx.trans hr
        clear hr
        try simp only [Act.put, List.setIfInBounds_toArray, List.set_cons_zero, List.set_cons_succ]
        refine wpT_call (List.getElem?_toArray.trans (by rfl)) (by rfl) (fun K hK => ?_) ?_
        · skip
          have hcy := Ext.cell hy
          have hfy := Ext.froz hy
          go_simp
          first | (refine hK _ _ ?_ ?_; (focus ((repeat (first | (with_reducible exact But.refl _ _) | assumption | (with_reducible refine But.drew ?_) | (with_reducible refine But.drewL ?_) | (with_reducible refine But.setCell ?_ ?_ _; rotate_left; (focus (simp; done))) | (with_reducible refine But.setCellL ?_ ?_; rotate_left; (focus (simp; done))) | (with_reducible refine But.alloc2 ?_ ?_; rotate_left; (focus (simp [World.setCell]; done))) | (with_reducible refine But.allocL ?_ ?_ ?_; rotate_left; (focus (simp; done)); (focus (simp; done))) | (with_reducible refine But.alloc ?_ _))); done))) | (refine hK undef _ ?_ ?_; (focus ((repeat (first | (with_reducible exact But.refl _ _) | assumption | (with_reducible refine But.drew ?_) | (with_reducible refine But.drewL ?_) | (with_reducible refine But.setCell ?_ ?_ _; rotate_left; (focus (simp; done))) | (with_reducible refine But.setCellL ?_ ?_; rotate_left; (focus (simp; done))) | (with_reducible refine But.alloc2 ?_ ?_; rotate_left; (focus (simp [World.setCell]; done))) | (with_reducible refine But.allocL ?_ ?_ ?_; rotate_left; (focus (simp; done)); (focus (simp; done))) | (with_reducible refine But.alloc ?_ _))); done)))
          clear hK
          intro hr
          replace hx := hx.trans hr
          clear hr
          try simp only [Act.put, List.setIfInBounds_toArray, List.set_cons_zero, List.set_cons_succ]
          first
            | (refine wpT_takeB hx (v := ?_) (List.getElem?_toArray.trans (by rfl)) (by rfl) (fun _ hc => ?_) ?_
               rotate_left
               focus (go_simp; (try go_ints); exact rfl)
               simp only [Act.put, List.setIfInBounds_toArray, List.set_cons_zero, List.set_cons_succ])
            | (refine wpT_skip (List.getElem?_toArray.trans (by rfl)) (by rfl) ?_; simp only [Act.put, List.setIfInBounds_toArray, List.set_cons_zero, List.set_cons_succ])
          first
            | (refine wpT_takeB hx (v := ?_) (List.getElem?_toArray.trans (by rfl)) (by rfl) (fun _ hc => ?_) ?_
               rotate_left
               focus (go_simp; (try go_ints); exact rfl)
               simp only [Act.put, List.setIfInBounds_toArray, List.set_cons_zero, List.set_cons_succ])
            | (refine wpT_skip (List.getElem?_toArray.trans (by rfl)) (by rfl) ?_; simp only [Act.put, List.setIfInBounds_toArray, List.set_cons_zero, List.set_cons_succ])
          first
            | (refine wpT_takeB hx (v := ?_) (List.getElem?_toArray.trans (by rfl)) (by rfl) (fun _ hc => ?_) ?_
               rotate_left
               focus (go_simp; (try go_ints); exact rfl)
               simp only [Act.put, List.setIfInBounds_toArray, List.set_cons_zero, List.set_cons_succ])
            | (refine wpT_skip (List.getElem?_toArray.trans (by rfl)) (by rfl) ?_; simp only [Act.put, List.setIfInBounds_toArray, List.set_cons_zero, List.set_cons_succ])
          refine wpT_call (List.getElem?_toArray.trans (by rfl)) (by rfl) (fun K hK => ?_) ?_
          · skip
            have hcy := Ext.cell hy
            have hfy := Ext.froz hy
            go_simp
            first | (refine hK _ _ ?_ ?_; (focus ((repeat (first | (with_reducible exact But.refl _ _) | assumption | (with_reducible refine But.drew ?_) | (with_reducible refine But.drewL ?_) | (with_reducible refine But.setCell ?_ ?_ _; rotate_left; (focus (simp; done))) | (with_reducible refine But.setCellL ?_ ?_; rotate_left; (focus (simp; done))) | (with_reducible refine But.alloc2 ?_ ?_; rotate_left; (focus (simp [World.setCell]; done))) | (with_reducible refine But.allocL ?_ ?_ ?_; rotate_left; (focus (simp; done)); (focus (simp; done))) | (with_reducible refine But.alloc ?_ _))); done))) | (refine hK undef _ ?_ ?_; (focus ((repeat (first | (with_reducible exact But.refl _ _) | assumption | (with_reducible refine But.drew ?_) | (with_reducible refine But.drewL ?_) | (with_reducible refine But.setCell ?_ ?_ _; rotate_left; (focus (simp; done))) | (with_reducible refine But.setCellL ?_ ?_; rotate_left; (focus (simp; done))) | (with_reducible refine But.alloc2 ?_ ?_; rotate_left; (focus (simp [World.setCell]; done))) | (with_reducible refine But.allocL ?_ ?_ ?_; rotate_left; (focus (simp; done)); (focus (simp; done))) | (with_reducible refine But.alloc ?_ _))); done)))
            clear hK
            intro hr
            replace hx := hx.trans hr
            clear hr
            try simp only [Act.put, List.setIfInBounds_toArray, List.set_cons_zero, List.set_cons_succ]
            refine wpT_done ?_
            go_wp2
            go_meet
            exact Hfin.out
          exact wpT_none
        exact wpT_none
      exact wpT_none
    refine wpT_call (List.getElem?_toArray.trans (by rfl)) (by rfl) (fun K hK => ?_) ?_
    · skip
      have hcy := Ext.cell hy
      have hfy := Ext.froz hy
      go_simp
      first | (refine hK _ _ ?_ ?_; (focus ((repeat (first | (with_reducible exact But.refl _ _) | assumption | (with_reducible refine But.drew ?_) | (with_reducible refine But.drewL ?_) | (with_reducible refine But.setCell ?_ ?_ _; rotate_left; (focus (simp; done))) | (with_reducible refine But.setCellL ?_ ?_; rotate_left; (focus (simp; done))) | (with_reducible refine But.alloc2 ?_ ?_; rotate_left; (focus (simp [World.setCell]; done))) | (with_reducible refine But.allocL ?_ ?_ ?_; rotate_left; (focus (simp; done)); (focus (simp; done))) | (with_reducible refine But.alloc ?_ _))); done))) | (refine hK undef _ ?_ ?_; (focus ((repeat (first | (with_reducible exact But.refl _ _) | assumption | (with_reducible refine But.drew ?_) | (with_reducible refine But.drewL ?_) | (with_reducible refine But.setCell ?_ ?_ _; rotate_left; (focus (simp; done))) | (with_reducible refine But.setCellL ?_ ?_; rotate_left; (focus (simp; done))) | (with_reducible refine But.alloc2 ?_ ?_; rotate_left; (focus (simp [World.setCell]; done))) | (with_reducible refine But.allocL ?_ ?_ ?_; rotate_left; (focus (simp; done)); (focus (simp; done))) | (with_reducible refine But.alloc ?_ _))); done)))
      clear hK
      intro hr
      replace hx := hx.trans hr
      clear hr
      try simp only [Act.put, List.setIfInBounds_toArray, List.set_cons_zero, List.set_cons_succ]
      first
        | (refine wpT_takeB hx (v := ?_) (List.getElem?_toArray.trans (by rfl)) (by rfl) (fun _ hc => ?_) ?_
           rotate_left
           focus (go_simp; (try go_ints); exact rfl)
           simp only [Act.put, List.setIfInBounds_toArray, List.set_cons_zero, List.set_cons_succ])
        | (refine wpT_skip (List.getElem?_toArray.trans (by rfl)) (by rfl) ?_; simp only [Act.put, List.setIfInBounds_toArray, List.set_cons_zero, List.set_cons_succ])
      first
        | (refine wpT_takeB hx (v := ?_) (List.getElem?_toArray.trans (by rfl)) (by rfl) (fun _ hc => ?_) ?_
           rotate_left
           focus (go_simp; (try go_ints); exact rfl)
           simp only [Act.put, List.setIfInBounds_toArray, List.set_cons_zero, List.set_cons_succ])
        | (refine wpT_skip (List.getElem?_toArray.trans (by rfl)) (by rfl) ?_; simp only [Act.put, List.setIfInBounds_toArray, List.set_cons_zero, List.set_cons_succ])
      refine wpT_call (List.getElem?_toArray.trans (by rfl)) (by rfl) (fun K hK => ?_) ?_
      · skip
        have hcy := Ext.cell hy
        have hfy := Ext.froz hy
        go_simp
        first | (refine hK _ _ ?_ ?_; (focus ((repeat (first | (with_reducible exact But.refl _ _) | assumption | (with_reducible refine But.drew ?_) | (with_reducible refine But.drewL ?_) | (with_reducible refine But.setCell ?_ ?_ _; rotate_left; (focus (simp; done))) | (with_reducible refine But.setCellL ?_ ?_; rotate_left; (focus (simp; done))) | (with_reducible refine But.alloc2 ?_ ?_; rotate_left; (focus (simp [World.setCell]; done))) | (with_reducible refine But.allocL ?_ ?_ ?_; rotate_left; (focus (simp; done)); (focus (simp; done))) | (with_reducible refine But.alloc ?_ _))); done))) | (refine hK undef _ ?_ ?_; (focus ((repeat (first | (with_reducible exact But.refl _ _) | assumption | (with_reducible refine But.drew ?_) | (with_reducible refine But.drewL ?_) | (with_reducible refine But.setCell ?_ ?_ _; rotate_left; (focus (simp; done))) | (with_reducible refine But.setCellL ?_ ?_; rotate_left; (focus (simp; done))) | (with_reducible refine But.alloc2 ?_ ?_; rotate_left; (focus (simp [World.setCell]; done))) | (with_reducible refine But.allocL ?_ ?_ ?_; rotate_left; (focus (simp; done)); (focus (simp; done))) | (with_reducible refine But.alloc ?_ _))); done)))
        clear hK
        intro hr
        replace hx := hx.trans hr
        clear hr
        try simp only [Act.put, List.setIfInBounds_toArray, List.set_cons_zero, List.set_cons_succ]
        first
          | (refine wpT_takeB hx (v := ?_) (List.getElem?_toArray.trans (by rfl)) (by rfl) (fun _ hc => ?_) ?_
             rotate_left
             focus (go_simp; (try go_ints); exact rfl)
             simp only [Act.put, List.setIfInBounds_toArray, List.set_cons_zero, List.set_cons_succ])
          | (refine wpT_skip (List.getElem?_toArray.trans (by rfl)) (by rfl) ?_; simp only [Act.put, List.setIfInBounds_toArray, List.set_cons_zero, List.set_cons_succ])
        first
          | (refine wpT_takeB hx (v := ?_) (List.getElem?_toArray.trans (by rfl)) (by rfl) (fun _ hc => ?_) ?_
             rotate_left
             focus (go_simp; (try go_ints); exact rfl)
             simp only [Act.put, List.setIfInBounds_toArray, List.set_cons_zero, List.set_cons_succ])
          | (refine wpT_skip (List.getElem?_toArray.trans (by rfl)) (by rfl) ?_; simp only [Act.put, List.setIfInBounds_toArray, List.set_cons_zero, List.set_cons_succ])
        first
          | (refine wpT_takeB hx (v := ?_) (List.getElem?_toArray.trans (by rfl)) (by rfl) (fun _ hc => ?_) ?_
             rotate_left
             focus (go_simp; (try go_ints); exact rfl)
             simp only [Act.put, List.setIfInBounds_toArray, List.set_cons_zero, List.set_cons_succ])
          | (refine wpT_skip (List.getElem?_toArray.trans (by rfl)) (by rfl) ?_; simp only [Act.put, List.setIfInBounds_toArray, List.set_cons_zero, List.set_cons_succ])
        refine wpT_call (List.getElem?_toArray.trans (by rfl)) (by rfl) (fun K hK => ?_) ?_
        · skip
          have hcy := Ext.cell hy
          have hfy := Ext.froz hy
          go_simp
          first | (refine hK _ _ ?_ ?_; (focus ((repeat (first | (with_reducible exact But.refl _ _) | assumption | (with_reducible refine But.drew ?_) | (with_reducible refine But.drewL ?_) | (with_reducible refine But.setCell ?_ ?_ _; rotate_left; (focus (simp; done))) | (with_reducible refine But.setCellL ?_ ?_; rotate_left; (focus (simp; done))) | (with_reducible refine But.alloc2 ?_ ?_; rotate_left; (focus (simp [World.setCell]; done))) | (with_reducible refine But.allocL ?_ ?_ ?_; rotate_left; (focus (simp; done)); (focus (simp; done))) | (with_reducible refine But.alloc ?_ _))); done))) | (refine hK undef _ ?_ ?_; (focus ((repeat (first | (with_reducible exact But.refl _ _) | assumption | (with_reducible refine But.drew ?_) | (with_reducible refine But.drewL ?_) | (with_reducible refine But.setCell ?_ ?_ _; rotate_left; (focus (simp; done))) | (with_reducible refine But.setCellL ?_ ?_; rotate_left; (focus (simp; done))) | (with_reducible refine But.alloc2 ?_ ?_; rotate_left; (focus (simp [World.setCell]; done))) | (with_reducible refine But.allocL ?_ ?_ ?_; rotate_left; (focus (simp; done)); (focus (simp; done))) | (with_reducible refine But.alloc ?_ _))); done)))
          clear hK
          intro hr
          replace hx := hx.trans hr
          clear hr
          try simp only [Act.put, List.setIfInBounds_toArray, List.set_cons_zero, List.set_cons_succ]
          first
            | (refine wpT_takeB hx (v := ?_) (List.getElem?_toArray.trans (by rfl)) (by rfl) (fun _ hc => ?_) ?_
               rotate_left
               focus (go_simp; (try go_ints); exact rfl)
               simp only [Act.put, List.setIfInBounds_toArray, List.set_cons_zero, List.set_cons_succ])
            | (refine wpT_skip (List.getElem?_toArray.trans (by rfl)) (by rfl) ?_; simp only [Act.put, List.setIfInBounds_toArray, List.set_cons_zero, List.set_cons_succ])
          refine wpT_call (List.getElem?_toArray.trans (by rfl)) (by rfl) (fun K hK => ?_) ?_
          · skip
            have hcy := Ext.cell hy
            have hfy := Ext.froz hy
            go_simp
            first | (refine hK _ _ ?_ ?_; (focus ((repeat (first | (with_reducible exact But.refl _ _) | assumption | (with_reducible refine But.drew ?_) | (with_reducible refine But.drewL ?_) | (with_reducible refine But.setCell ?_ ?_ _; rotate_left; (focus (simp; done))) | (with_reducible refine But.setCellL ?_ ?_; rotate_left; (focus (simp; done))) | (with_reducible refine But.alloc2 ?_ ?_; rotate_left; (focus (simp [World.setCell]; done))) | (with_reducible refine But.allocL ?_ ?_ ?_; rotate_left; (focus (simp; done)); (focus (simp; done))) | (with_reducible refine But.alloc ?_ _))); done))) | (refine hK undef _ ?_ ?_; (focus ((repeat (first | (with_reducible exact But.refl _ _) | assumption | (with_reducible refine But.drew ?_) | (with_reducible refine But.drewL ?_) | (with_reducible refine But.setCell ?_ ?_ _; rotate_left; (focus (simp; done))) | (with_reducible refine But.setCellL ?_ ?_; rotate_left; (focus (simp; done))) | (with_reducible refine But.alloc2 ?_ ?_; rotate_left; (focus (simp [World.setCell]; done))) | (with_reducible refine But.allocL ?_ ?_ ?_; rotate_left; (focus (simp; done)); (focus (simp; done))) | (with_reducible refine But.alloc ?_ _))); done)))
            clear hK
            intro hr
            replace hx := hx.trans hr
            clear hr
            try simp only [Act.put, List.setIfInBounds_toArray, List.set_cons_zero, List.set_cons_succ]
            refine wpT_done ?_
            go_wp2
            go_meet
            exact Hfin.out
          exact wpT_none
        exact wpT_none
      exact wpT_none
    exact wpT_none
  case rest =>
    obtain ⟨ka, kb, hE⟩ := hcut
    clear hfin la lb ca cb fa fb
    have ca := ka.cell
    have cb := kb.cell
    have fa := ka.froz
    have fb := kb.froz
    have la := ka.lt
    have lb := kb.lt
    obtain ⟨a60, _⟩ := qa 6 (by omega)
    obtain ⟨b60, _⟩ := qb 6 (by omega)
    have r3 : (a 6).tmod 1000 = a 6 % 1000 := Int.tmod_eq_emod_of_nonneg a60
    have r4 : (b 6).tmod 1000 = b 6 % 1000 := Int.tmod_eq_emod_of_nonneg b60
    obtain ⟨x6, hx6, hx6l⟩ : ∃ x : Nat, a 6 % 1000 = (x : Int) ∧ x < 1000 := ⟨(a 6 % 1000).toNat, by omega, by omega⟩
    obtain ⟨y6, hy6, hy6l⟩ : ∃ x : Nat, b 6 % 1000 = (x : Int) ∧ x < 1000 := ⟨(b 6 % 1000).toNat, by omega, by omega⟩
    rw [hx6] at r3
    rw [hy6] at r4
    have hfin := And.intro (((ka.set_ 6 (.int .i64 (x6 : Int))).far (p := ⟨w7.heap.size + 1, 6, none⟩) hne (.int .i64 (y6 : Int))).drew) (And.intro (((kb.far (p := ⟨w7.heap.size, 6, none⟩) (Ne.symm hne) (.int .i64 (x6 : Int))).set_ 6 (.int .i64 (y6 : Int))).drew)
      (Ext.drew (Ext.setCell (Ext.setCell hE (p := ⟨w7.heap.size, 6, none⟩) (by show w.heap.size ≤ w7.heap.size; exact hE0.size_le) (.int .i64 (x6 : Int))) (p := ⟨w7.heap.size + 1, 6, none⟩) (by show w.heap.size ≤ w7.heap.size + 1; have := hE0.size_le; omega) (.int .i64 (y6 : Int)))))
    simp only [stV, List.setIfInBounds_toArray, List.set_cons_zero, List.set_cons_succ] at hfin
    go_upto_region 6 with fail
    go_cut [] (fun wx => Blk wx w7.heap.size 28 #[.int .i64 (a 0), .int .i64 (a 1), .int .i64 (a 2), .int .i64 (a 3), .int .i64 (a 4), .int .i64 (1 + x5), .int .i64 x6, .int .i64 (a 7), .int .i64 (a 8)] ∧ Blk wx (w7.heap.size + 1) 28 #[.int .i64 (b 0), .int .i64 (b 1), .int .i64 (b 2), .int .i64 (b 3), .int .i64 (b 4), .int .i64 (1 + y5), .int .i64 y6, .int .i64 (b 7), .int .i64 (b 8)] ∧ Ext w wx)
    case first =>
      clear qa qb qc qab qbc hE hE0 hx5 hy5 hx6 hy6 a50 b50 a60 b60 ka kb
      have Hfin := Lib.hid hfin
      clear hfin
      refine wp_region_treeB [w7.heap.size, w7.heap.size + 1] (.take 0 (.take 3 (.alt 1 (.take 2 (.take 6 (.alt 4 (.take 5 (.alt 7 (.take 8 (.alt 9 .done .none)) .none)) (.alt 7 (.alt 4 (.take 5 (.take 8 (.alt 9 .done .none))) .none) .none)))) (.alt 4 (.take 5 (.alt 1 (.take 2 (.take 6 (.alt 7 (.take 8 (.alt 9 .done .none)) .none))) .none)) .none)))) Try.mixed (by kernel_rfl) ?_
      intro hx hy
      first
        | (refine wpT_takeB hx (v := ?_) (List.getElem?_toArray.trans (by rfl)) (by rfl) (fun _ hc => ?_) ?_
           rotate_left
           focus (go_simp; (try go_ints); exact rfl)
           simp only [Act.put, List.setIfInBounds_toArray, List.set_cons_zero, List.set_cons_succ])
        | (refine wpT_skip (List.getElem?_toArray.trans (by rfl)) (by rfl) ?_; simp only [Act.put, List.setIfInBounds_toArray, List.set_cons_zero, List.set_cons_succ])
      first
        | (refine wpT_takeB hx (v := ?_) (List.getElem?_toArray.trans (by rfl)) (by rfl) (fun _ hc => ?_) ?_
           rotate_left
           focus (go_simp; (try go_ints); exact rfl)
           simp only [Act.put, List.setIfInBounds_toArray, List.set_cons_zero, List.set_cons_succ])
        | (refine wpT_skip (List.getElem?_toArray.trans (by rfl)) (by rfl) ?_; simp only [Act.put, List.setIfInBounds_toArray, List.set_cons_zero, List.set_cons_succ])
      refine wpT_call (List.getElem?_toArray.trans (by rfl)) (by rfl) (fun K hK => ?_) ?_
      · skip
        have hcy := Ext.cell hy
        have hfy := Ext.froz hy
        go_simp
        first | (refine hK _ _ ?_ ?_; (focus ((repeat (first | (with_reducible exact But.refl _ _) | assumption | (with_reducible refine But.drew ?_) | (with_reducible refine But.drewL ?_) | (with_reducible refine But.setCell ?_ ?_ _; rotate_left; (focus (simp; done))) | (with_reducible refine But.setCellL ?_ ?_; rotate_left; (focus (simp; done))) | (with_reducible refine But.alloc2 ?_ ?_; rotate_left; (focus (simp [World.setCell]; done))) | (with_reducible refine But.allocL ?_ ?_ ?_; rotate_left; (focus (simp; done)); (focus (simp; done))) | (with_reducible refine But.alloc ?_ _))); done))) | (refine hK undef _ ?_ ?_; (focus ((repeat (first | (with_reducible exact But.refl _ _) | assumption | (with_reducible refine But.drew ?_) | (with_reducible refine But.drewL ?_) | (with_reducible refine But.setCell ?_ ?_ _; rotate_left; (focus (simp; done))) | (with_reducible refine But.setCellL ?_ ?_; rotate_left; (focus (simp; done))) | (with_reducible refine But.alloc2 ?_ ?_; rotate_left; (focus (simp [World.setCell]; done))) | (with_reducible refine But.allocL ?_ ?_ ?_; rotate_left; (focus (simp; done)); (focus (simp; done))) | (with_reducible refine But.alloc ?_ _))); done)))
        clear hK
        intro hr
        replace hx := hx.trans hr
        clear hr
        try simp only [Act.put, List.setIfInBounds_toArray, List.set_cons_zero, List.set_cons_succ]
        first
          | (refine wpT_takeB hx (v := ?_) (List.getElem?_toArray.trans (by rfl)) (by rfl) (fun _ hc => ?_) ?_
             rotate_left
             focus (go_simp; (try go_ints); exact rfl)
             simp only [Act.put, List.setIfInBounds_toArray, List.set_cons_zero, List.set_cons_succ])
          | (refine wpT_skip (List.getElem?_toArray.trans (by rfl)) (by rfl) ?_; simp only [Act.put, List.setIfInBounds_toArray, List.set_cons_zero, List.set_cons_succ])
        first
          | (refine wpT_takeB hx (v := ?_) (List.getElem?_toArray.trans (by rfl)) (by rfl) (fun _ hc => ?_) ?_
             rotate_left
             focus (go_simp; (try go_ints); exact rfl)
             simp only [Act.put, List.setIfInBounds_toArray, List.set_cons_zero, List.set_cons_succ])
          | (refine wpT_skip (List.getElem?_toArray.trans (by rfl)) (by rfl) ?_; simp only [Act.put, List.setIfInBounds_toArray, List.set_cons_zero, List.set_cons_succ])
        refine wpT_call (List.getElem?_toArray.trans (by rfl)) (by rfl) (fun K hK => ?_) ?_
        · skip
          have hcy := Ext.cell hy
          have hfy := Ext.froz hy
          go_simp
          first | (refine hK _ _ ?_ ?_; (focus ((repeat (first | (with_reducible exact But.refl _ _) | assumption | (with_reducible refine But.drew ?_) | (with_reducible refine But.drewL ?_) | (with_reducible refine But.setCell ?_ ?_ _; rotate_left; (focus (simp; done))) | (with_reducible refine But.setCellL ?_ ?_; rotate_left; (focus (simp; done))) | (with_reducible refine But.alloc2 ?_ ?_; rotate_left; (focus (simp [World.setCell]; done))) | (with_reducible refine But.allocL ?_ ?_ ?_; rotate_left; (focus (simp; done)); (focus (simp; done))) | (with_reducible refine But.alloc ?_ _))); done))) | (refine hK undef _ ?_ ?_; (focus ((repeat (first | (with_reducible exact But.refl _ _) | assumption | (with_reducible refine But.drew ?_) | (with_reducible refine But.drewL ?_) | (with_reducible refine But.setCell ?_ ?_ _; rotate_left; (focus (simp; done))) | (with_reducible refine But.setCellL ?_ ?_; rotate_left; (focus (simp; done))) | (with_reducible refine But.alloc2 ?_ ?_; rotate_left; (focus (simp [World.setCell]; done))) | (with_reducible refine But.allocL ?_ ?_ ?_; rotate_left; (focus (simp; done)); (focus (simp; done))) | (with_reducible refine But.alloc ?_ _))); done)))
          clear hK
          intro hr
          replace hx := hx.trans hr
          clear hr
          try simp only [Act.put, List.setIfInBounds_toArray, List.set_cons_zero, List.set_cons_succ]
          first
            | (refine wpT_takeB hx (v := ?_) (List.getElem?_toArray.trans (by rfl)) (by rfl) (fun _ hc => ?_) ?_
               rotate_left
               focus (go_simp; (try go_ints); exact rfl)
               simp only [Act.put, List.setIfInBounds_toArray, List.set_cons_zero, List.set_cons_succ])
            | (refine wpT_skip (List.getElem?_toArray.trans (by rfl)) (by rfl) ?_; simp only [Act.put, List.setIfInBounds_toArray, List.set_cons_zero, List.set_cons_succ])
          refine wpT_call (List.getElem?_toArray.trans (by rfl)) (by rfl) (fun K hK => ?_) ?_
          · skip
            have hcy := Ext.cell hy
            have hfy := Ext.froz hy
            go_simp
            first | (refine hK _ _ ?_ ?_; (focus ((repeat (first | (with_reducible exact But.refl _ _) | assumption | (with_reducible refine But.drew ?_) | (with_reducible refine But.drewL ?_) | (with_reducible refine But.setCell ?_ ?_ _; rotate_left; (focus (simp; done))) | (with_reducible refine But.setCellL ?_ ?_; rotate_left; (focus (simp; done))) | (with_reducible refine But.alloc2 ?_ ?_; rotate_left; (focus (simp [World.setCell]; done))) | (with_reducible refine But.allocL ?_ ?_ ?_; rotate_left; (focus (simp; done)); (focus (simp; done))) | (with_reducible refine But.alloc ?_ _))); done))) | (refine hK undef _ ?_ ?_; (focus ((repeat (first | (with_reducible exact But.refl _ _) | assumption | (with_reducible refine But.drew ?_) | (with_reducible refine But.drewL ?_) | (with_reducible refine But.setCell ?_ ?_ _; rotate_left; (focus (simp; done))) | (with_reducible refine But.setCellL ?_ ?_; rotate_left; (focus (simp; done))) | (with_reducible refine But.alloc2 ?_ ?_; rotate_left; (focus (simp [World.setCell]; done))) | (with_reducible refine But.allocL ?_ ?_ ?_; rotate_left; (focus (simp; done)); (focus (simp; done))) | (with_reducible refine But.alloc ?_ _))); done)))
            clear hK
            intro hr
            replace hx := hx.trans hr
            clear hr
            try simp only [Act.put, List.setIfInBounds_toArray, List.set_cons_zero, List.set_cons_succ]
            first
              | (refine wpT_takeB hx (v := ?_) (List.getElem?_toArray.trans (by rfl)) (by rfl) (fun _ hc => ?_) ?_
                 rotate_left
                 focus (go_simp; (try go_ints); exact rfl)
                 simp only [Act.put, List.setIfInBounds_toArray, List.set_cons_zero, List.set_cons_succ])
              | (refine wpT_skip (List.getElem?_toArray.trans (by rfl)) (by rfl) ?_; simp only [Act.put, List.setIfInBounds_toArray, List.set_cons_zero, List.set_cons_succ])
            refine wpT_call (List.getElem?_toArray.trans (by rfl)) (by rfl) (fun K hK => ?_) ?_
            · skip
              have hcy := Ext.cell hy
              have hfy := Ext.froz hy
              go_simp
              first | (refine hK _ _ ?_ ?_; (focus ((repeat (first | (with_reducible exact But.refl _ _) | assumption | (with_reducible refine But.drew ?_) | (with_reducible refine But.drewL ?_) | (with_reducible refine But.setCell ?_ ?_ _; rotate_left; (focus (simp; done))) | (with_reducible refine But.setCellL ?_ ?_; rotate_left; (focus (simp; done))) | (with_reducible refine But.alloc2 ?_ ?_; rotate_left; (focus (simp [World.setCell]; done))) | (with_reducible refine But.allocL ?_ ?_ ?_; rotate_left; (focus (simp; done)); (focus (simp; done))) | (with_reducible refine But.alloc ?_ _))); done))) | (refine hK undef _ ?_ ?_; (focus ((repeat (first | (with_reducible exact But.refl _ _) | assumption | (with_reducible refine But.drew ?_) | (with_reducible refine But.drewL ?_) | (with_reducible refine But.setCell ?_ ?_ _; rotate_left; (focus (simp; done))) | (with_reducible refine But.setCellL ?_ ?_; rotate_left; (focus (simp; done))) | (with_reducible refine But.alloc2 ?_ ?_; rotate_left; (focus (simp [World.setCell]; done))) | (with_reducible refine But.allocL ?_ ?_ ?_; rotate_left; (focus (simp; done)); (focus (simp; done))) | (with_reducible refine But.alloc ?_ _))); done)))
              clear hK
              intro hr
              replace hx := hx.trans hr
              clear hr
              try simp only [Act.put, List.setIfInBounds_toArray, List.set_cons_zero, List.set_cons_succ]
              refine wpT_done ?_
              go_wp2
              go_meet
              exact Hfin.out
            exact wpT_none
          exact wpT_none
        refine wpT_call (List.getElem?_toArray.trans (by rfl)) (by rfl) (fun K hK => ?_) ?_
        · skip
          have hcy := Ext.cell hy
          have hfy := Ext.froz hy
          go_simp
          first | (refine hK _ _ ?_ ?_; (focus ((repeat (first | (with_reducible exact But.refl _ _) | assumption | (with_reducible refine But.drew ?_) | (with_reducible refine But.drewL ?_) | (with_reducible refine But.setCell ?_ ?_ _; rotate_left; (focus (simp; done))) | (with_reducible refine But.setCellL ?_ ?_; rotate_left; (focus (simp; done))) | (with_reducible refine But.alloc2 ?_ ?_; rotate_left; (focus (simp [World.setCell]; done))) | (with_reducible refine But.allocL ?_ ?_ ?_; rotate_left; (focus (simp; done)); (focus (simp; done))) | (with_reducible refine But.alloc ?_ _))); done))) | (refine hK undef _ ?_ ?_; (focus ((repeat (first | (with_reducible exact But.refl _ _) | assumption | (with_reducible refine But.drew ?_) | (with_reducible refine But.drewL ?_) | (with_reducible refine But.setCell ?_ ?_ _; rotate_left; (focus (simp; done))) | (with_reducible refine But.setCellL ?_ ?_; rotate_left; (focus (simp; done))) | (with_reducible refine But.alloc2 ?_ ?_; rotate_left; (focus (simp [World.setCell]; done))) | (with_reducible refine But.allocL ?_ ?_ ?_; rotate_left; (focus (simp; done)); (focus (simp; done))) | (with_reducible refine But.alloc ?_ _))); done)))
          clear hK
          intro hr
          replace hx := hx.trans hr
          clear hr
          try simp only [Act.put, List.setIfInBounds_toArray, List.set_cons_zero, List.set_cons_succ]
          refine wpT_call (List.getElem?_toArray.trans (by rfl)) (by rfl) (fun K hK => ?_) ?_
          · skip
            have hcy := Ext.cell hy
            have hfy := Ext.froz hy
            go_simp
            first | (refine hK _ _ ?_ ?_; (focus ((repeat (first | (with_reducible exact But.refl _ _) | assumption | (with_reducible refine But.drew ?_) | (with_reducible refine But.drewL ?_) | (with_reducible refine But.setCell ?_ ?_ _; rotate_left; (focus (simp; done))) | (with_reducible refine But.setCellL ?_ ?_; rotate_left; (focus (simp; done))) | (with_reducible refine But.alloc2 ?_ ?_; rotate_left; (focus (simp [World.setCell]; done))) | (with_reducible refine But.allocL ?_ ?_ ?_; rotate_left; (focus (simp; done)); (focus (simp; done))) | (with_reducible refine But.alloc ?_ _))); done))) | (refine hK undef _ ?_ ?_; (focus ((repeat (first | (with_reducible exact But.refl _ _) | assumption | (with_reducible refine But.drew ?_) | (with_reducible refine But.drewL ?_) | (with_reducible refine But.setCell ?_ ?_ _; rotate_left; (focus (simp; done))) | (with_reducible refine But.setCellL ?_ ?_; rotate_left; (focus (simp; done))) | (with_reducible refine But.alloc2 ?_ ?_; rotate_left; (focus (simp [World.setCell]; done))) | (with_reducible refine But.allocL ?_ ?_ ?_; rotate_left; (focus (simp; done)); (focus (simp; done))) | (with_reducible refine But.alloc ?_ _))); done)))
            clear hK
            intro hr
            replace hx := hx.trans hr
            clear hr
            try simp only [Act.put, List.setIfInBounds_toArray, List.set_cons_zero, List.set_cons_succ]
            first
              | (refine wpT_takeB hx (v := ?_) (List.getElem?_toArray.trans (by rfl)) (by rfl) (fun _ hc => ?_) ?_
                 rotate_left
                 focus (go_simp; (try go_ints); exact rfl)
                 simp only [Act.put, List.setIfInBounds_toArray, List.set_cons_zero, List.set_cons_succ])
              | (refine wpT_skip (List.getElem?_toArray.trans (by rfl)) (by rfl) ?_; simp only [Act.put, List.setIfInBounds_toArray, List.set_cons_zero, List.set_cons_succ])
            first
              | (refine wpT_takeB hx (v := ?_) (List.getElem?_toArray.trans (by rfl)) (by rfl) (fun _ hc => ?_) ?_
                 rotate_left
                 focus (go_simp; (try go_ints); exact rfl)
                 simp only [Act.put, List.setIfInBounds_toArray, List.set_cons_zero, List.set_cons_succ])
              | (refine wpT_skip (List.getElem?_toArray.trans (by rfl)) (by rfl) ?_; simp only [Act.put, List.setIfInBounds_toArray, List.set_cons_zero, List.set_cons_succ])
            refine wpT_call (List.getElem?_toArray.trans (by rfl)) (by rfl) (fun K hK => ?_) ?_
            · skip
              have hcy := Ext.cell hy
              have hfy := Ext.froz hy
              go_simp
              first | (refine hK _ _ ?_ ?_; (focus ((repeat (first | (with_reducible exact But.refl _ _) | assumption | (with_reducible refine But.drew ?_) | (with_reducible refine But.drewL ?_) | (with_reducible refine But.setCell ?_ ?_ _; rotate_left; (focus (simp; done))) | (with_reducible refine But.setCellL ?_ ?_; rotate_left; (focus (simp; done))) | (with_reducible refine But.alloc2 ?_ ?_; rotate_left; (focus (simp [World.setCell]; done))) | (with_reducible refine But.allocL ?_ ?_ ?_; rotate_left; (focus (simp; done)); (focus (simp; done))) | (with_reducible refine But.alloc ?_ _))); done))) | (refine hK undef _ ?_ ?_; (focus ((repeat (first | (with_reducible exact But.refl _ _) | assumption | (with_reducible refine But.drew ?_) | (with_reducible refine But.drewL ?_) | (with_reducible refine But.setCell ?_ ?_ _; rotate_left; (focus (simp; done))) | (with_reducible refine But.setCellL ?_ ?_; rotate_left; (focus (simp; done))) | (with_reducible refine But.alloc2 ?_ ?_; rotate_left; (focus (simp [World.setCell]; done))) | (with_reducible refine But.allocL ?_ ?_ ?_; rotate_left; (focus (simp; done)); (focus (simp; done))) | (with_reducible refine But.alloc ?_ _))); done)))
              clear hK
              intro hr
              replace hx := hx.trans hr
              clear hr
              try simp only [Act.put, List.setIfInBounds_toArray, List.set_cons_zero, List.set_cons_succ]
              refine wpT_done ?_
              go_wp2
              go_meet
              exact Hfin.out
            exact wpT_none
          exact wpT_none
        exact wpT_none
      refine wpT_call (List.getElem?_toArray.trans (by rfl)) (by rfl) (fun K hK => ?_) ?_
      · skip
        have hcy := Ext.cell hy
        have hfy := Ext.froz hy
        go_simp
        first | (refine hK _ _ ?_ ?_; (focus ((repeat (first | (with_reducible exact But.refl _ _) | assumption | (with_reducible refine But.drew ?_) | (with_reducible refine But.drewL ?_) | (with_reducible refine But.setCell ?_ ?_ _; rotate_left; (focus (simp; done))) | (with_reducible refine But.setCellL ?_ ?_; rotate_left; (focus (simp; done))) | (with_reducible refine But.alloc2 ?_ ?_; rotate_left; (focus (simp [World.setCell]; done))) | (with_reducible refine But.allocL ?_ ?_ ?_; rotate_left; (focus (simp; done)); (focus (simp; done))) | (with_reducible refine But.alloc ?_ _))); done))) | (refine hK undef _ ?_ ?_; (focus ((repeat (first | (with_reducible exact But.refl _ _) | assumption | (with_reducible refine But.drew ?_) | (with_reducible refine But.drewL ?_) | (with_reducible refine But.setCell ?_ ?_ _; rotate_left; (focus (simp; done))) | (with_reducible refine But.setCellL ?_ ?_; rotate_left; (focus (simp; done))) | (with_reducible refine But.alloc2 ?_ ?_; rotate_left; (focus (simp [World.setCell]; done))) | (with_reducible refine But.allocL ?_ ?_ ?_; rotate_left; (focus (simp; done)); (focus (simp; done))) | (with_reducible refine But.alloc ?_ _))); done)))
        clear hK
        intro hr
        replace hx := hx.trans hr
        clear hr
        try simp only [Act.put, List.setIfInBounds_toArray, List.set_cons_zero, List.set_cons_succ]
        first
          | (refine wpT_takeB hx (v := ?_) (List.getElem?_toArray.trans (by rfl)) (by rfl) (fun _ hc => ?_) ?_
             rotate_left
             focus (go_simp; (try go_ints); exact rfl)
             simp only [Act.put, List.setIfInBounds_toArray, List.set_cons_zero, List.set_cons_succ])
          | (refine wpT_skip (List.getElem?_toArray.trans (by rfl)) (by rfl) ?_; simp only [Act.put, List.setIfInBounds_toArray, List.set_cons_zero, List.set_cons_succ])
        refine wpT_call (List.getElem?_toArray.trans (by rfl)) (by rfl) (fun K hK => ?_) ?_
        · skip
          have hcy := Ext.cell hy
          have hfy := Ext.froz hy
          go_simp
          first | (refine hK _ _ ?_ ?_; (focus ((repeat (first | (with_reducible exact But.refl _ _) | assumption | (with_reducible refine But.drew ?_) | (with_reducible refine But.drewL ?_) | (with_reducible refine But.setCell ?_ ?_ _; rotate_left; (focus (simp; done))) | (with_reducible refine But.setCellL ?_ ?_; rotate_left; (focus (simp; done))) | (with_reducible refine But.alloc2 ?_ ?_; rotate_left; (focus (simp [World.setCell]; done))) | (with_reducible refine But.allocL ?_ ?_ ?_; rotate_left; (focus (simp; done)); (focus (simp; done))) | (with_reducible refine But.alloc ?_ _))); done))) | (refine hK undef _ ?_ ?_; (focus ((repeat (first | (with_reducible exact But.refl _ _) | assumption | (with_reducible refine But.drew ?_) | (with_reducible refine But.drewL ?_) | (with_reducible refine But.setCell ?_ ?_ _; rotate_left; (focus (simp; done))) | (with_reducible refine But.setCellL ?_ ?_; rotate_left; (focus (simp; done))) | (with_reducible refine But.alloc2 ?_ ?_; rotate_left; (focus (simp [World.setCell]; done))) | (with_reducible refine But.allocL ?_ ?_ ?_; rotate_left; (focus (simp; done)); (focus (simp; done))) | (with_reducible refine But.alloc ?_ _))); done)))
          clear hK
          intro hr
          replace hx := hx.trans hr
          clear hr
          try simp only [Act.put, List.setIfInBounds_toArray, List.set_cons_zero, List.set_cons_succ]
          first
            | (refine wpT_takeB hx (v := ?_) (List.getElem?_toArray.trans (by rfl)) (by rfl) (fun _ hc => ?_) ?_
               rotate_left
               focus (go_simp; (try go_ints); exact rfl)
               simp only [Act.put, List.setIfInBounds_toArray, List.set_cons_zero, List.set_cons_succ])
            | (refine wpT_skip (List.getElem?_toArray.trans (by rfl)) (by rfl) ?_; simp only [Act.put, List.setIfInBounds_toArray, List.set_cons_zero, List.set_cons_succ])
          first
            | (refine wpT_takeB hx (v := ?_) (List.getElem?_toArray.trans (by rfl)) (by rfl) (fun _ hc => ?_) ?_
               rotate_left
               focus (go_simp; (try go_ints); exact rfl)
               simp only [Act.put, List.setIfInBounds_toArray, List.set_cons_zero, List.set_cons_succ])
            | (refine wpT_skip (List.getElem?_toArray.trans (by rfl)) (by rfl) ?_; simp only [Act.put, List.setIfInBounds_toArray, List.set_cons_zero, List.set_cons_succ])
          refine wpT_call (List.getElem?_toArray.trans (by rfl)) (by rfl) (fun K hK => ?_) ?_
          · skip
            have hcy := Ext.cell hy
            have hfy := Ext.froz hy
            go_simp
            first | (refine hK _ _ ?_ ?_; (focus ((repeat (first | (with_reducible exact But.refl _ _) | assumption | (with_reducible refine But.drew ?_) | (with_reducible refine But.drewL ?_) | (with_reducible refine But.setCell ?_ ?_ _; rotate_left; (focus (simp; done))) | (with_reducible refine But.setCellL ?_ ?_; rotate_left; (focus (simp; done))) | (with_reducible refine But.alloc2 ?_ ?_; rotate_left; (focus (simp [World.setCell]; done))) | (with_reducible refine But.allocL ?_ ?_ ?_; rotate_left; (focus (simp; done)); (focus (simp; done))) | (with_reducible refine But.alloc ?_ _))); done))) | (refine hK undef _ ?_ ?_; (focus ((repeat (first | (with_reducible exact But.refl _ _) | assumption | (with_reducible refine But.drew ?_) | (with_reducible refine But.drewL ?_) | (with_reducible refine But.setCell ?_ ?_ _; rotate_left; (focus (simp; done))) | (with_reducible refine But.setCellL ?_ ?_; rotate_left; (focus (simp; done))) | (with_reducible refine But.alloc2 ?_ ?_; rotate_left; (focus (simp [World.setCell]; done))) | (with_reducible refine But.allocL ?_ ?_ ?_; rotate_left; (focus (simp; done)); (focus (simp; done))) | (with_reducible refine But.alloc ?_ _))); done)))
            clear hK
            intro hr
            replace hx := hx.trans hr
            clear hr
            try simp only [Act.put, List.setIfInBounds_toArray, List.set_cons_zero, List.set_cons_succ]
            first
              | (refine wpT_takeB hx (v := ?_) (List.getElem?_toArray.trans (by rfl)) (by rfl) (fun _ hc => ?_) ?_
                 rotate_left
                 focus (go_simp; (try go_ints); exact rfl)
                 simp only [Act.put, List.setIfInBounds_toArray, List.set_cons_zero, List.set_cons_succ])
              | (refine wpT_skip (List.getElem?_toArray.trans (by rfl)) (by rfl) ?_; simp only [Act.put, List.setIfInBounds_toArray, List.set_cons_zero, List.set_cons_succ])
            refine wpT_call (List.getElem?_toArray.trans (by rfl)) (by rfl) (fun K hK => ?_) ?_
            · skip
              have hcy := Ext.cell hy
              have hfy := Ext.froz hy
              go_simp
              first | (refine hK _ _ ?_ ?_; (focus ((repeat (first | (with_reducible exact But.refl _ _) | assumption | (with_reducible refine But.drew ?_) | (with_reducible refine But.drewL ?_) | (with_reducible refine But.setCell ?_ ?_ _; rotate_left; (focus (simp; done))) | (with_reducible refine But.setCellL ?_ ?_; rotate_left; (focus (simp; done))) | (with_reducible refine But.alloc2 ?_ ?_; rotate_left; (focus (simp [World.setCell]; done))) | (with_reducible refine But.allocL ?_ ?_ ?_; rotate_left; (focus (simp; done)); (focus (simp; done))) | (with_reducible refine But.alloc ?_ _))); done))) | (refine hK undef _ ?_ ?_; (focus ((repeat (first | (with_reducible exact But.refl _ _) | assumption | (with_reducible refine But.drew ?_) | (with_reducible refine But.drewL ?_) | (with_reducible refine But.setCell ?_ ?_ _; rotate_left; (focus (simp; done))) | (with_reducible refine But.setCellL ?_ ?_; rotate_left; (focus (simp; done))) | (with_reducible refine But.alloc2 ?_ ?_; rotate_left; (focus (simp [World.setCell]; done))) | (with_reducible refine But.allocL ?_ ?_ ?_; rotate_left; (focus (simp; done)); (focus (simp; done))) | (with_reducible refine But.alloc ?_ _))); done)))
              clear hK
              intro hr
              replace hx := hx.trans hr
              clear hr
              try simp only [Act.put, List.setIfInBounds_toArray, List.set_cons_zero, List.set_cons_succ]
              refine wpT_done ?_
              go_wp2
              go_meet
              exact Hfin.out
            exact wpT_none
          exact wpT_none
        exact wpT_none
      exact wpT_none
    case rest =>
      rename World => wn
      obtain ⟨ka, kb, hE⟩ := hcut
      clear hfin la lb ca cb fa fb
      have ca := ka.cell
      have cb := kb.cell
      have la := ka.lt
      have lb := kb.lt
      have cnt : ∀ {y : Nat → Int} (_ : Qs y) (i : Nat) (_ : i < 9), Cnt (y i) := fun hq i hi => by
        obtain ⟨h1, h2⟩ := hq i hi
        exact ⟨h1, by omega⟩
      obtain ⟨hmx, hmy, hzf, hq1, hq2⟩ := adds_quo (a := x6) (b := 1 + x5) (c := y6) (d := 1 + y5) (by omega) (by omega) (by omega) (by omega) (by omega) (by omega)
      have u0 := cnt qa 0 (by omega)
      have u1 := cnt qa 1 (by omega)
      have u2 := cnt qa 2 (by omega)
      have u3 := cnt qa 3 (by omega)
      have u4 := cnt qa 4 (by omega)
      have u7 := cnt qa 7 (by omega)
      have u8 := cnt qa 8 (by omega)
      have t0 := cnt qb 0 (by omega)
      have t1 := cnt qb 1 (by omega)
      have t2 := cnt qb 2 (by omega)
      have t3 := cnt qb 3 (by omega)
      have t4 := cnt qb 4 (by omega)
      have t7 := cnt qb 7 (by omega)
      have t8 := cnt qb 8 (by omega)
      have s0 : Cnt (a 0 + b 0) := cnt qab 0 (by omega)
      have s1 : Cnt (a 1 + b 1) := cnt qab 1 (by omega)
      have s2 : Cnt (a 2 + b 2) := cnt qab 2 (by omega)
      have s3 : Cnt (a 3 + b 3) := cnt qab 3 (by omega)
      have s4 : Cnt (a 4 + b 4) := cnt qab 4 (by omega)
      have s7 : Cnt (a 7 + b 7) := cnt qab 7 (by omega)
      have s8 : Cnt (a 8 + b 8) := cnt qab 8 (by omega)
      have u5 : Cnt (1 + (x5 : Int)) := ⟨by omega, by omega⟩
      have u6 : Cnt (x6 : Int) := ⟨by omega, by omega⟩
      have t5 : Cnt (1 + (y5 : Int)) := ⟨by omega, by omega⟩
      have t6 : Cnt (y6 : Int) := ⟨by omega, by omega⟩
      have s5 : Cnt (1 + (x5 : Int) + (1 + (y5 : Int))) := ⟨by omega, by omega⟩
      have s6 : Cnt ((x6 : Int) + (y6 : Int)) := ⟨by omega, by omega⟩
      have hA : quoW (x6 : Int).toNat (1 + (x5 : Int)).toNat = quoW x6 (1 + x5) := by congr 1
      have hB : quoW (y6 : Int).toNat (1 + (y5 : Int)).toNat = quoW y6 (1 + y5) := by congr 1
      have hC : quoW ((x6 : Int) + (y6 : Int)).toNat (1 + (x5 : Int) + (1 + (y5 : Int))).toNat = quoW (x6 + y6) (1 + x5 + (1 + y5)) := by
        rw [show ((x6 : Int) + (y6 : Int)).toNat = x6 + y6 by omega, show (1 + (x5 : Int) + (1 + (y5 : Int))).toNat = 1 + x5 + (1 + y5) by omega]
      have hfit : Fits (nine (a 0) (a 1) (a 2) (a 3) (a 4) (1 + (x5 : Int)) (x6 : Int) (a 7) (a 8)) (nine (b 0) (b 1) (b 2) (b 3) (b 4) (1 + (y5 : Int)) (y6 : Int) (b 7) (b 8)) :=
        fits_of (cnts_nine u0 u1 u2 u3 u4 u5 u6 u7 u8) (cnts_nine t0 t1 t2 t3 t4 t5 t6 t7 t8)
      obtain ⟨tt, ss, uu, ht, hs, hu, hge, hle⟩ := adds_test hmx hmy hzf hq1 hq2
      generalize quoW x6 (1 + x5) = X at *
      generalize quoW y6 (1 + y5) = Y at *
      generalize quoW (x6 + y6) (1 + x5 + (1 + y5)) = Z at *
      have Ha := Lib.hid hA
      have Hb := Lib.hid hB
      have Hc := Lib.hid hC
      have hmin := fmin_run X Y hmx.1 hmy.1
      have hmax := fmax_run X Y hmx.1 hmy.1
      have hmul1 := fun W : World => run_float_arith (P := Try.prog) W .mul 33 .f64 _ _ tt ht
      have hsub1 := fun W : World => run_float_arith (P := Try.prog) W .sub 33 .f64 _ _ ss hs
      have hmul2 := fun W : World => run_float_arith (P := Try.prog) W .mul 33 .f64 _ _ uu hu
      have hge2 : FloatKind.f64.format.order Z ss = some .gt ∨ FloatKind.f64.format.order Z ss = some .eq := by
        have h : Ieee.double.order Z ss = some .gt ∨ Ieee.double.order Z ss = some .eq := by simpa using hge
        exact h
      have hle2 : FloatKind.f64.format.order Z uu = some .lt ∨ FloatKind.f64.format.order Z uu = some .eq := by
        have h : Ieee.double.order Z uu = some .lt ∨ Ieee.double.order Z uu = some .eq := by simpa using hle
        exact h
      clear hge hle ht hs hu hA hB hC hmx hmy hzf hq1 hq2 qa qb qc qab qbc r1 r2 r3 r4 hx5 hy5 hx6 hy6 cnt
      go_upto_region 7 with fail
      refine wp_region_ext [(true, 0), (true, 2), (true, 4), (true, 5), (false, 1), (false, 3), (false, 6), (false, 7), (true, 8), (true, 9), (true, 10)] Try.mixed (by kernel_rfl) (by simp only [pick, List.filterMap_cons, List.filterMap_nil, List.getElem?_toArray, List.getElem?_cons_succ, List.getElem?_cons_zero, Option.map_some]; rfl) ?_
      intro hx
      repeat (first
        | (refine wpL_take hx (v := ?_) (by rfl) (fun _ hc => ?_) ?_
           rotate_left
           focus (go_simp; (try go_ints); exact rfl)
           simp only [Act.put, List.setIfInBounds_toArray, List.set_cons_zero, List.set_cons_succ])
        | (refine wpL_skip (by rfl) ?_; simp only [Act.put, List.setIfInBounds_toArray, List.set_cons_zero, List.set_cons_succ])
        | (refine wpL_call (by rfl) (fun K hK => ?_); go_simp; go_at_call 16; refine (surv_fin _ _ _ _ _ _ _ _ _ _ (by assumption) (by assumption) (by assumption) (by assumption) (by assumption) (by assumption) (by assumption) (by assumption) (by assumption) (by omega)).mono ?_; rintro e w1 ⟨rfl, hE2⟩; (try rw [Ha.out]); (try rw [Hb.out]); (try rw [Hc.out]); refine hK _ _ (hE2) ?_; clear hK; intro hr; replace hx := hx.trans hr; clear hr; simp only [Act.put, List.setIfInBounds_toArray, List.set_cons_zero, List.set_cons_succ])
        | (refine wpL_call (by rfl) (fun K hK => ?_); go_simp; go_at_call 15; refine (sum_ex _ _ _ _ _ _ _ _ _ _ _ _ _ _ _ _ _ _ _ hfit).mono ?_; rintro e w1 ⟨rfl, hE3⟩; refine hK _ _ (hE3) ?_; clear hK; intro hr; replace hx := hx.trans hr; clear hr; simp only [Act.put, List.setIfInBounds_toArray, List.set_cons_zero, List.set_cons_succ])
        | (refine wpL_call (by rfl) (fun K hK => ?_); go_simp; (first | (refine hK _ _ ?_ ?_; (focus ((repeat (first | (with_reducible exact Ext.refl _) | assumption | (with_reducible refine Ext.alloc ?_ _) | (with_reducible refine Ext.drew ?_) | (with_reducible refine Ext.drewL ?_) | refine Ext.trans ?_ (by assumption))); done))) | (refine hK undef _ ?_ ?_; (focus ((repeat (first | (with_reducible exact Ext.refl _) | assumption | (with_reducible refine Ext.alloc ?_ _) | (with_reducible refine Ext.drew ?_) | (with_reducible refine Ext.drewL ?_) | refine Ext.trans ?_ (by assumption))); done)))); clear hK; intro hr; replace hx := hx.trans hr; clear hr; try simp only [Act.put, List.setIfInBounds_toArray, List.set_cons_zero, List.set_cons_succ]))
      refine wpL_end ?_
      clear hx ca cb la lb ka kb u0 u1 u2 u3 u4 u5 u6 u7 u8 t0 t1 t2 t3 t4 t5 t6 t7 t8 s0 s1 s2 s3 s4 s5 s6 s7 s8
      rcases hge2 with o1 | o1
      · rcases hle2 with o2 | o2
        · go_wp2_with (first | (go_at_call 11; refine (awake_any _).mono ?_; rintro e w1 ⟨rfl, hE8⟩))
          go_ret
          exact ⟨rfl, by (repeat (first | (with_reducible exact Ext.refl _) | assumption | (with_reducible refine Ext.alloc ?_ _) | (with_reducible refine Ext.drew ?_) | (with_reducible refine Ext.drewL ?_) | refine Ext.trans ?_ (by assumption)))⟩
        · go_wp2_with (first | (go_at_call 11; refine (awake_any _).mono ?_; rintro e w1 ⟨rfl, hE8⟩))
          go_ret
          exact ⟨rfl, by (repeat (first | (with_reducible exact Ext.refl _) | assumption | (with_reducible refine Ext.alloc ?_ _) | (with_reducible refine Ext.drew ?_) | (with_reducible refine Ext.drewL ?_) | refine Ext.trans ?_ (by assumption)))⟩
      · rcases hle2 with o2 | o2
        · go_wp2_with (first | (go_at_call 11; refine (awake_any _).mono ?_; rintro e w1 ⟨rfl, hE8⟩))
          go_ret
          exact ⟨rfl, by (repeat (first | (with_reducible exact Ext.refl _) | assumption | (with_reducible refine Ext.alloc ?_ _) | (with_reducible refine Ext.drew ?_) | (with_reducible refine Ext.drewL ?_) | refine Ext.trans ?_ (by assumption)))⟩
        · go_wp2_with (first | (go_at_call 11; refine (awake_any _).mono ?_; rintro e w1 ⟨rfl, hE8⟩))
          go_ret
          exact ⟨rfl, by (repeat (first | (with_reducible exact Ext.refl _) | assumption | (with_reducible refine Ext.alloc ?_ _) | (with_reducible refine Ext.drew ?_) | (with_reducible refine Ext.drewL ?_) | refine Ext.trans ?_ (by assumption)))⟩
end Go.Proofs.Ytdacclclalhbaaa
