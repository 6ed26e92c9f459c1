/- The law ModelHandles, walked. Condition: none beyond the sizes of a slice. -/
import Derived.Test.YtamghjilcfeheaaAB
import Derived.Test.YtamghjilcfeheaaBF
namespace Go.Proofs.Ytamghjilcfeheaa
open Go.RowKit Go.Draw

theorem doOk_1 {g : Gr} (hv : Vld g) (hn : g.ns.length ≤ 1000) (a b d : Int) : DoOk g 1 a b d := fun base M o W h hM => do29_1 base M o g a b d W h hv hn hM
theorem doOk_7 {g : Gr} (hv : Vld g) (a b d : Int) : DoOk g 7 a b d := fun base M o W h hM => do29_7 base M o g a b d W h hv hM
theorem at_len {us : List Bool} (hl : us.length = 32) {i : Nat} (hi : i < 32) : ∃ u, us[i]? = some u := ⟨_, List.getElem?_eq_getElem (by omega)⟩
/-- a new handle -/
theorem alloc_facts {g : Gr} (hv : Vld g) : (freeT g.us < 32 ∧ (doT g 1 1 1 0).2.1 = 0 ∧ (doT g 1 1 1 0).2.2 = (freeT g.us : Int) + 1 ∧ (doT g 1 1 1 0).1.us.length = 32 ∧ (doT g 1 1 1 0).1.us[freeT g.us]? = some true) ∨ (freeT g.us = 32 ∧ (doT g 1 1 1 0).2.1 = 15) := by
  have hle := freeT_le g.us
  rw [hv.lu] at hle
  by_cases hf : freeT g.us < 32
  · left
    have ht : doT g 1 1 1 0 = (⟨g.ns ++ [([-1], [0])], g.us.set (freeT g.us) true, g.rs.set (freeT g.us) g.ns.length⟩, 0, (freeT g.us : Int) + 1) := by
      simp only [doT, if_true]
      rw [if_neg (by omega), if_pos hf]
      rfl
    rw [ht]
    have hl : (g.us.set (freeT g.us) true).length = 32 := by simpa using hv.lu
    exact ⟨hf, rfl, rfl, hl, by simp [hv.lu, hf]⟩
  · right
    have ht : doT g 1 1 1 0 = (g, 15, 0) := by
      simp only [doT, if_true]
      rw [if_neg (by omega), if_neg hf]
    rw [ht]
    exact ⟨by omega, rfl⟩
/-- a handle that is dropped -/
theorem drop_facts {g : Gr} (hv : Vld g) {k : Nat} (hk : k < 32) : (doT g 7 ((k : Int) + 1) 0 0).1.us.length = 32 ∧ (doT g 7 ((k : Int) + 1) 0 0).1.us[k]? = some false ∧ (∀ i, i ≠ k → (doT g 7 ((k : Int) + 1) 0 0).1.us[i]? = g.us[i]?) ∧
    ∃ u, g.us[k]? = some u ∧ ((doT g 7 ((k : Int) + 1) 0 0).2.1 == 0) = u := by
  obtain ⟨u, hu⟩ := at_len hv.lu hk
  have he := hErr_in g k true u hk hu
  cases u with
  | true =>
    have he2 : hErr g ((k : Int) + 1) true = 0 := by rw [he]; rfl
    have ht : doT g 7 ((k : Int) + 1) 0 0 = (⟨g.ns, g.us.set k false, g.rs.set k (-1)⟩, 0, 0) := by
      have e : ((k : Int) + 1 - 1).toNat = k := by omega
      simp [doT, he2, accT]
    rw [ht]
    refine ⟨by simpa using hv.lu, by simp [hv.lu, hk], fun i hi => by simp [List.getElem?_set_ne (Ne.symm hi)], true, hu, rfl⟩
  | false =>
    have he2 : hErr g ((k : Int) + 1) true = 14 := by rw [he]; rfl
    have ht : doT g 7 ((k : Int) + 1) 0 0 = (g, 14, 0) := by simp [doT, he2]
    rw [ht]
    exact ⟨hv.lu, hu, fun i _ => rfl, false, hu, rfl⟩
theorem do10_drop (v : Value) (g : Gr) (kk : Nat) (w : World) (hg : GRx [] w v g) (hv : Vld g) (hn : g.ns.length ≤ 1000) :
    Calls Try.prog 10 #[v, .agg #[.int .i64 7, .int .i64 (1 + (kk : Int)), .int .i64 0, .int .i64 0]] w (RetDo [] w (doT g 7 ((kk : Int) + 1) 0 0)) := by
  rw [show 1 + (kk : Int) = (kk : Int) + 1 by omega]
  exact do10_of v g 7 ((kk : Int) + 1) 0 0 w (S := []) (by simp) hg hv hn (doOk_7 hv _ 0 0)
theorem do10_one (v : Value) (g : Gr) (w : World) (y : Gr × Int × Int) (hy : doT g 1 1 1 0 = y) (hg : GRx [] w v g) (hv : Vld g) (hn : g.ns.length ≤ 1000) :
    Calls Try.prog 10 #[v, .agg #[.int .i64 1, .int .i64 1, .int .i64 1, .int .i64 0]] w (RetDo [] w y) := by
  rw [← hy]
  exact do10_of v g 1 1 1 0 w (S := []) (by simp) hg hv hn (doOk_1 hv hn 1 1 0)
theorem do10_drop2 (v : Value) (g : Gr) (kk : Nat) (w : World) (y : Gr × Int × Int) (hy : doT g 7 ((kk : Int) + 1) 0 0 = y) (hg : GRx [] w v g) (hv : Vld g) (hn : g.ns.length ≤ 1000) :
    Calls Try.prog 10 #[v, .agg #[.int .i64 7, .int .i64 (1 + (kk : Int)), .int .i64 0, .int .i64 0]] w (RetDo [] w y) := by
  rw [← hy]
  exact do10_drop v g kk w hg hv hn
set_option maxRecDepth 100000 in
set_option maxHeartbeats 1500000 in
theorem handles_any (A : Option Addr) (n c : Nat) (zs : List Int) (hh : Int) (w : World) (hz : Rd w A n 1 (ints zs)) (hn : n ≤ 9223372036854775807) :
    Calls Try.prog 3 #[.slice A n c, .int .i64 hh] w fun r w' => r = .returned (.bool true) ∧ Ext w w' := by
  go_enter Try.func3, Try.ntmps3
  go_upto_region 2 with (first | (go_at_call 9; refine (deck_any A n c zs _ hz hn).mono ?_; rintro e w1 ⟨rfl, hDk, hE1⟩; have hz1 := hDk.lt) | (go_at_call 8; refine (graph8_any w.heap.size _ (S := [w.heap.size]) (fun x hx => by have := List.mem_singleton.1 hx; omega) (by simp) hDk).mono ?_; rintro e w1 ⟨v, g, rfl, hgx, hv, hl50, hD2, hB2⟩; (obtain ⟨A0, a0, B0, b0, C0, c0, rfl⟩ := hgx.sl)))
  have hEw : Ext w w1 := But.ext hE1 hB2 (fun x hx => by have := List.mem_singleton.1 hx; omega)
  have hX := Ext.alloc (Ext.refl w1) (.cells #[.slice A0 g.ns.length a0, .slice B0 g.us.length b0, .slice C0 g.rs.length c0] 26)
  have kO : Blk (w1.alloc (.cells #[.slice A0 g.ns.length a0, .slice B0 g.us.length b0, .slice C0 g.rs.length c0] 26)) w1.heap.size 26 #[.slice A0 g.ns.length a0, .slice B0 g.us.length b0, .slice C0 g.rs.length c0] := Blk.new rfl
  generalize w1.alloc (.cells #[.slice A0 g.ns.length a0, .slice B0 g.us.length b0, .slice C0 g.rs.length c0] 26) = W at hX kO ⊢
  generalize w1.heap.size = o at kO ⊢
  have hEW : Ext w W := hEw.trans hX
  have hgW : GRx [] W _ g := (hgx.ext hX).less (by simp)
  have cO := kO.cell
  have lO := kO.lt
  clear hEw hX hgx hB2 hD2 hz1 hE1 hDk
  obtain ⟨hU, _⟩ := hgW.rd.rows
  have Hlu := Lib.hid hv.lu
  have hle := freeT_le g.us
  go_wp2_with fail
  go_loopw [6] (fun t wx => ∃ k : Nat, k ≤ 32 ∧ t = .int .i64 k ∧ Ext W wx ∧ ∀ j < k, g.us[j]? = some true) (fun t _ => 32 - (intOf t).toNat)
  case atStart => exact ⟨0, by omega, rfl, Ext.refl _, fun j hj => by omega⟩
  case round =>
    obtain ⟨k, hk, rfl, hE, hall⟩ := hrel
    have Hall := Lib.hid hall
    have cO' := (kO.ext hE).cell
    clear hall cO
    by_cases hlt : k < 32
    · have hdec : decide ((k : Int) < 32) = true := by simp; omega
      have hdec' : decide (k < 32) = true := by simp; omega
      have hkb : (k : Int) < g.us.length := by have := Hlu.out; omega
      have hkb' : k < g.us.length := by have := Hlu.out; omega
      obtain ⟨u, hu⟩ := at_len Hlu.out hlt
      obtain ⟨bb, ob, rfl, hcb⟩ := rd_vb (hU.ext hE) hu
      have Hu := Lib.hid hu
      have lbb := cell_lt hcb
      clear hu
      cases u
      · have hf := freeT_at Hall.out Hu.out
        have hgc := hgW.ext hE
        have hal := alloc_facts hv
        obtain ⟨y, hy⟩ : ∃ y, doT g 1 1 1 0 = y := ⟨_, rfl⟩
        rw [hy, hf] at hal
        clear hf
        have Hy := Lib.hid hy
        clear hy
        go_upto_region 6 with (first | (go_at_call 10; refine (do10_one _ g _ y Hy.out hgc hv (by omega)).mono ?_; rintro e w1 ⟨v1, rfl, hg1, hE1⟩; (obtain ⟨A1, a1, B1, b1, C1, c1, rfl⟩ := hg1.sl)))
        have k7 : Blk ((w1.alloc (.cells #[.slice A1 y.1.ns.length a1, .slice B1 y.1.us.length b1, .slice C1 y.1.rs.length c1] 26)).alloc (.cells #[.int .i64 y.2.1, .int .u64 y.2.2] 33)) w1.heap.size 26 #[.slice A1 y.1.ns.length a1, .slice B1 y.1.us.length b1, .slice C1 y.1.rs.length c1] := Blk.alloc (Blk.new rfl) _
        have k8 : Blk ((w1.alloc (.cells #[.slice A1 y.1.ns.length a1, .slice B1 y.1.us.length b1, .slice C1 y.1.rs.length c1] 26)).alloc (.cells #[.int .i64 y.2.1, .int .u64 y.2.2] 33)) (w1.heap.size + 1) 33 #[.int .i64 y.2.1, .int .u64 y.2.2] := Blk.new (by simp)
        have hX1 : Ext w1 ((w1.alloc (.cells #[.slice A1 y.1.ns.length a1, .slice B1 y.1.us.length b1, .slice C1 y.1.rs.length c1] 26)).alloc (.cells #[.int .i64 y.2.1, .int .u64 y.2.2] 33)) := by (repeat (first | (with_reducible exact Ext.refl _) | assumption | (with_reducible refine Ext.alloc ?_ _) | (with_reducible refine Ext.drew ?_) | (with_reducible refine Ext.drewL ?_) | refine Ext.trans ?_ (by assumption)))
        generalize (w1.alloc (.cells #[.slice A1 y.1.ns.length a1, .slice B1 y.1.us.length b1, .slice C1 y.1.rs.length c1] 26)).alloc (.cells #[.int .i64 y.2.1, .int .u64 y.2.2] 33) = W1 at k7 k8 hX1 ⊢
        have c7 := k7.cell
        have c8 := k8.cell
        have l7 := k7.lt
        have l8 := k8.lt
        have hEc : Ext W W1 := hE.trans (hE1.trans hX1)
        obtain ⟨hU1, _⟩ := (hg1.ext hX1).rd.rows
        rcases hal with ⟨f1, f2, f3, f4, f5⟩ | ⟨f1, _⟩
        · obtain ⟨b7, o7, rfl, hc7⟩ := rd_vb hU1 f5
          have lb7 := cell_lt hc7
          have e0 : ((k : Int) == 32) = false := by simp; omega
          have e1 : (y.2.1 != 0) = false := by simp [f2]
          have e2 : (y.2.2 != (k : Int) + 1) = false := by simp [f3]
          have e3 : ((y.1.us.length : Int) != 32) = false := by simp; omega
          have e4 : k < y.1.us.length := by omega
          have e5 : (k : Int) < y.1.us.length := by omega
          have kb : (k : Int) < 32 := by omega
          clear f2 f3 f4 f5
          go_upto_region 11 with fail
          have cO2 := (kO.ext hEc).cell
          have hgc2 := hgW.ext hEc
          obtain ⟨kk, hkk, hk32'⟩ := mod_ex hh 32 (by omega)
          have hdf := drop_facts hv hk32'
          obtain ⟨y2, hy2⟩ : ∃ y2, doT g 7 ((kk : Int) + 1) 0 0 = y2 := ⟨_, rfl⟩
          rw [hy2] at hdf
          obtain ⟨q1, q2, q3, u, q4, q5⟩ := hdf
          have Hy2 := Lib.hid hy2
          have Q1 := Lib.hid q1
          have Q2 := Lib.hid q2
          have Q3 := Lib.hid q3
          have Q4 := Lib.hid q4
          have Q5 := Lib.hid q5
          clear hy2 q1 q2 q3 q4 q5 hgc hU1
          have hkI : ((32 : Nat) : Int) = 32 := rfl
          rw [hkI] at hkk
          go_upto_region 13 with (first | (go_at_call 11; refine (mod_to hh 32 kk _ (by omega) (by omega) hkk).mono ?_; rintro e w1 ⟨rfl, rfl⟩) | (go_at_call 10; refine (do10_drop2 _ g kk _ y2 Hy2.out hgc2 hv (by omega)).mono ?_; rintro e w1 ⟨v2, rfl, hg2, hE2⟩; (obtain ⟨w2, rfl⟩ : ∃ w2, w2 = w1 := ⟨_, rfl⟩); (obtain ⟨A2, a2, B2, b2, C2, c2, rfl⟩ := hg2.sl)))
          have k10 : Blk ((w2.alloc (.cells #[.slice A2 y2.1.ns.length a2, .slice B2 y2.1.us.length b2, .slice C2 y2.1.rs.length c2] 26)).alloc (.cells #[.int .i64 y2.2.1, .int .u64 y2.2.2] 33)) w2.heap.size 26 #[.slice A2 y2.1.ns.length a2, .slice B2 y2.1.us.length b2, .slice C2 y2.1.rs.length c2] := Blk.alloc (Blk.new rfl) _
          have k11 : Blk ((w2.alloc (.cells #[.slice A2 y2.1.ns.length a2, .slice B2 y2.1.us.length b2, .slice C2 y2.1.rs.length c2] 26)).alloc (.cells #[.int .i64 y2.2.1, .int .u64 y2.2.2] 33)) (w2.heap.size + 1) 33 #[.int .i64 y2.2.1, .int .u64 y2.2.2] := Blk.new (by simp)
          have hX2 : Ext w2 ((w2.alloc (.cells #[.slice A2 y2.1.ns.length a2, .slice B2 y2.1.us.length b2, .slice C2 y2.1.rs.length c2] 26)).alloc (.cells #[.int .i64 y2.2.1, .int .u64 y2.2.2] 33)) := by (repeat (first | (with_reducible exact Ext.refl _) | assumption | (with_reducible refine Ext.alloc ?_ _) | (with_reducible refine Ext.drew ?_) | (with_reducible refine Ext.drewL ?_) | refine Ext.trans ?_ (by assumption)))
          generalize (w2.alloc (.cells #[.slice A2 y2.1.ns.length a2, .slice B2 y2.1.us.length b2, .slice C2 y2.1.rs.length c2] 26)).alloc (.cells #[.int .i64 y2.2.1, .int .u64 y2.2.2] 33) = W2 at k10 k11 hX2 ⊢
          have hE12 : Ext W1 W2 := hE2.trans hX2
          have hEc2 : Ext W W2 := hEc.trans hE12
          have hUg := hU.ext hEc2
          obtain ⟨hU2, _⟩ := (hg2.ext hX2).rd.rows
          obtain ⟨b13, o13, hA13, hc13⟩ := rd_vb hUg Q4.out
          cases hA13
          obtain ⟨b14, o14, rfl, hc14⟩ := rd_vb hU2 Q2.out
          have c10 := k10.cell
          have c11 := k11.cell
          have cOo := (kO.ext hEc2).cell
          have l10 := k10.lt
          have l11 := k11.lt
          have l13 := cell_lt hc13
          have l14 := cell_lt hc14
          have q5 := Q5.out
          have uu : (u != u) = false := by cases u <;> rfl
          have w1' : 1 + (kk : Int) - 1 = kk := by omega
          have w2' : kk < g.us.length := by have := Hlu.out; omega
          have w3' : (kk : Int) < g.us.length := by omega
          have w4' : kk < y2.1.us.length := by have := Q1.out; omega
          have w5' : (kk : Int) < y2.1.us.length := by omega
          have w6' : ((y2.1.us.length : Int) != 32) = false := by have := Q1.out; simp; omega
          have hEw2 := hEW.trans hEc2
          have hlb : (g.us.length : Int) ≤ 1000 := by have := Hlu.out; omega
          clear k7 k8 hX1 c7 c8 l7 l8 cO2 hgc2 hg1 hgW hEW hX2 hE2 hE12
          refine wp_region_ext [(true, 0), (true, 1), (true, 2), (true, 3), (true, 4), (true, 5), (true, 6), (true, 7), (true, 8), (true, 9), (true, 10), (true, 11), (true, 12), (true, 13), (true, 14), (true, 15)] Try.mixed (by kernel_rfl) (by simp only [pick, List.filterMap_cons, List.filterMap_nil, List.getElem?_toArray, List.getElem?_cons_succ, List.getElem?_cons_zero, Option.map_some]; rfl) ?_
          intro hx
          repeat (first
            | (refine wpL_take hx (v := ?_) (by rfl) (fun _ hc => ?_) ?_
               rotate_left
               focus (go_simp; (try go_ints); exact rfl)
               simp only [Act.put, List.setIfInBounds_toArray, List.set_cons_zero, List.set_cons_succ])
            | (refine wpL_skip (by rfl) ?_; simp only [Act.put, List.setIfInBounds_toArray, List.set_cons_zero, List.set_cons_succ])
            | (refine wpL_call (by rfl) (fun K hK => ?_); go_simp; (first | (refine hK _ _ ?_ ?_; (focus ((repeat (first | (with_reducible exact Ext.refl _) | assumption | (with_reducible refine Ext.alloc ?_ _) | (with_reducible refine Ext.drew ?_) | (with_reducible refine Ext.drewL ?_) | refine Ext.trans ?_ (by assumption))); done))) | (refine hK undef _ ?_ ?_; (focus ((repeat (first | (with_reducible exact Ext.refl _) | assumption | (with_reducible refine Ext.alloc ?_ _) | (with_reducible refine Ext.drew ?_) | (with_reducible refine Ext.drewL ?_) | refine Ext.trans ?_ (by assumption))); done)))); clear hK; intro hr; replace hx := hx.trans hr; clear hr; try simp only [Act.put, List.setIfInBounds_toArray, List.set_cons_zero, List.set_cons_succ]))
          refine wpL_end ?_
          go_wp2_with fail
          clear c10 c11 cOo hc13 hc14 hx
          go_loopw [92] (fun t wx => ∃ j : Nat, j ≤ g.us.length ∧ t = .int .i64 j ∧ Ext W2 wx) (fun t _ => g.us.length - (intOf t).toNat)
          case atStart => exact ⟨0, by omega, rfl, Ext.drew (Ext.refl _)⟩
          case round =>
            obtain ⟨j, hj, rfl, hEx⟩ := hrel
            have c10 := (k10.ext hEx).cell
            have c11 := (k11.ext hEx).cell
            have cOo := ((kO.ext hEc2).ext hEx).cell
            by_cases hjl : j < g.us.length
            · have hdec : decide ((j : Int) < g.us.length) = true := by simp; omega
              have hdec' : decide (j < g.us.length) = true := by simp; omega
              by_cases hjk : j = kk
              · have n1 : ((j : Int) != kk) = false := by simp [hjk]
                have jb : (j : Int) ≤ 1000 := by omega
                go_upto_region 18 with fail
                refine wp_region_ext [(true, 0), (true, 1), (true, 2), (true, 3), (true, 4), (true, 5), (true, 6), (true, 7), (true, 8), (true, 9), (true, 10), (true, 11), (true, 12), (true, 13), (true, 14), (true, 15), (true, 16)] Try.mixed (by kernel_rfl) (by simp only [pick, List.filterMap_cons, List.filterMap_nil, List.getElem?_toArray, List.getElem?_cons_succ, List.getElem?_cons_zero, Option.map_some]; rfl) ?_
                intro hx
                repeat (first
                  | (refine wpL_take hx (v := ?_) (by rfl) (fun _ hc => ?_) ?_
                     rotate_left
                     focus (go_simp; (try go_ints); exact rfl)
                     simp only [Act.put, List.setIfInBounds_toArray, List.set_cons_zero, List.set_cons_succ])
                  | (refine wpL_skip (by rfl) ?_; simp only [Act.put, List.setIfInBounds_toArray, List.set_cons_zero, List.set_cons_succ])
                  | (refine wpL_call (by rfl) (fun K hK => ?_); go_simp; (first | (refine hK _ _ ?_ ?_; (focus ((repeat (first | (with_reducible exact Ext.refl _) | assumption | (with_reducible refine Ext.alloc ?_ _) | (with_reducible refine Ext.drew ?_) | (with_reducible refine Ext.drewL ?_) | refine Ext.trans ?_ (by assumption))); done))) | (refine hK undef _ ?_ ?_; (focus ((repeat (first | (with_reducible exact Ext.refl _) | assumption | (with_reducible refine Ext.alloc ?_ _) | (with_reducible refine Ext.drew ?_) | (with_reducible refine Ext.drewL ?_) | refine Ext.trans ?_ (by assumption))); done)))); clear hK; intro hr; replace hx := hx.trans hr; clear hr; try simp only [Act.put, List.setIfInBounds_toArray, List.set_cons_zero, List.set_cons_succ]))
                refine wpL_end ?_
                go_wp2
                go_roundw
                case rel => exact ⟨j + 1, by omega, by go_num, Ext.drew hEx⟩
                case measure => first | (simp [intOf]; done) | (simp [intOf]; omega)
              · have n1 : ((j : Int) != kk) = true := by simp; omega
                obtain ⟨v, hv1⟩ : ∃ v, g.us[j]? = some v := ⟨_, List.getElem?_eq_getElem hjl⟩
                have hv2 : y2.1.us[j]? = some v := by rw [Q3.out j hjk, hv1]
                obtain ⟨b15, o15, hA15, hc15⟩ := rd_vb (hUg.ext hEx) hv1
                cases hA15
                obtain ⟨b16, o16, hA16, hc16⟩ := rd_vb (hU2.ext hEx) hv2
                cases hA16
                have l15 := cell_lt hc15
                have l16 := cell_lt hc16
                have vv : (v != v) = false := by cases v <;> rfl
                have j1 : j < y2.1.us.length := (List.getElem?_eq_some_iff.1 hv2).1
                have j2 : (j : Int) < y2.1.us.length := by omega
                have j3 : (j : Int) < g.us.length := by omega
                have jb : (j : Int) ≤ 1000 := by omega
                clear hv1 hv2
                go_upto_region 18 with fail
                refine wp_region_ext [(true, 0), (true, 1), (true, 2), (true, 3), (true, 4), (true, 5), (true, 6), (true, 7), (true, 8), (true, 9), (true, 10), (true, 11), (true, 12), (true, 13), (true, 14), (true, 15), (true, 16)] Try.mixed (by kernel_rfl) (by simp only [pick, List.filterMap_cons, List.filterMap_nil, List.getElem?_toArray, List.getElem?_cons_succ, List.getElem?_cons_zero, Option.map_some]; rfl) ?_
                intro hx
                repeat (first
                  | (refine wpL_take hx (v := ?_) (by rfl) (fun _ hc => ?_) ?_
                     rotate_left
                     focus (go_simp; (try go_ints); exact rfl)
                     simp only [Act.put, List.setIfInBounds_toArray, List.set_cons_zero, List.set_cons_succ])
                  | (refine wpL_skip (by rfl) ?_; simp only [Act.put, List.setIfInBounds_toArray, List.set_cons_zero, List.set_cons_succ])
                  | (refine wpL_call (by rfl) (fun K hK => ?_); go_simp; (first | (refine hK _ _ ?_ ?_; (focus ((repeat (first | (with_reducible exact Ext.refl _) | assumption | (with_reducible refine Ext.alloc ?_ _) | (with_reducible refine Ext.drew ?_) | (with_reducible refine Ext.drewL ?_) | refine Ext.trans ?_ (by assumption))); done))) | (refine hK undef _ ?_ ?_; (focus ((repeat (first | (with_reducible exact Ext.refl _) | assumption | (with_reducible refine Ext.alloc ?_ _) | (with_reducible refine Ext.drew ?_) | (with_reducible refine Ext.drewL ?_) | refine Ext.trans ?_ (by assumption))); done)))); clear hK; intro hr; replace hx := hx.trans hr; clear hr; try simp only [Act.put, List.setIfInBounds_toArray, List.set_cons_zero, List.set_cons_succ]))
                refine wpL_end ?_
                go_wp2
                go_roundw
                case rel => exact ⟨j + 1, by omega, by go_num, Ext.drew hEx⟩
                case measure => first | (simp [intOf]; done) | (simp [intOf]; omega)
            · have hdec : decide ((j : Int) < g.us.length) = false := by simp; omega
              have hdec' : decide (j < g.us.length) = false := by simp; omega
              obtain ⟨b14', o14', hA14, hc14⟩ := rd_vb (hU2.ext hEx) Q2.out
              cases hA14
              go_wp2
              go_ret
              exact ⟨rfl, hEw2.trans hEx⟩
        · omega
      · go_wp2
        go_roundw
        case rel => exact ⟨k + 1, by omega, by go_num, hE, fun j hj => by
          rcases Nat.lt_or_ge j k with h | h
          · exact Hall.out j h
          · have : j = k := by omega
            subst this; exact Hu.out⟩
        case measure => simp [intOf]; omega
    · have hdec : decide ((k : Int) < 32) = false := by simp; omega
      have hdec' : decide (k < 32) = false := by simp; omega
      have hf := freeT_none (us := g.us) (fun i hi => Hall.out i (by have := Hlu.out; omega))
      have hk32 : k = 32 := by omega
      rw [Hlu.out, ← hk32] at hf
      have hgc := hgW.ext hE
      have hal := alloc_facts hv
      obtain ⟨y, hy⟩ : ∃ y, doT g 1 1 1 0 = y := ⟨_, rfl⟩
      rw [hy, hf] at hal
      clear hf
      have Hy := Lib.hid hy
      clear hy
      go_upto_region 6 with (first | (go_at_call 10; refine (do10_one _ g _ y Hy.out hgc hv (by omega)).mono ?_; rintro e w1 ⟨v1, rfl, hg1, hE1⟩; (obtain ⟨A1, a1, B1, b1, C1, c1, rfl⟩ := hg1.sl)))
      have k7 : Blk ((w1.alloc (.cells #[.slice A1 y.1.ns.length a1, .slice B1 y.1.us.length b1, .slice C1 y.1.rs.length c1] 26)).alloc (.cells #[.int .i64 y.2.1, .int .u64 y.2.2] 33)) w1.heap.size 26 #[.slice A1 y.1.ns.length a1, .slice B1 y.1.us.length b1, .slice C1 y.1.rs.length c1] := Blk.alloc (Blk.new rfl) _
      have k8 : Blk ((w1.alloc (.cells #[.slice A1 y.1.ns.length a1, .slice B1 y.1.us.length b1, .slice C1 y.1.rs.length c1] 26)).alloc (.cells #[.int .i64 y.2.1, .int .u64 y.2.2] 33)) (w1.heap.size + 1) 33 #[.int .i64 y.2.1, .int .u64 y.2.2] := Blk.new (by simp)
      have hX1 : Ext w1 ((w1.alloc (.cells #[.slice A1 y.1.ns.length a1, .slice B1 y.1.us.length b1, .slice C1 y.1.rs.length c1] 26)).alloc (.cells #[.int .i64 y.2.1, .int .u64 y.2.2] 33)) := by (repeat (first | (with_reducible exact Ext.refl _) | assumption | (with_reducible refine Ext.alloc ?_ _) | (with_reducible refine Ext.drew ?_) | (with_reducible refine Ext.drewL ?_) | refine Ext.trans ?_ (by assumption)))
      generalize (w1.alloc (.cells #[.slice A1 y.1.ns.length a1, .slice B1 y.1.us.length b1, .slice C1 y.1.rs.length c1] 26)).alloc (.cells #[.int .i64 y.2.1, .int .u64 y.2.2] 33) = W1 at k7 k8 hX1 ⊢
      have c7 := k7.cell
      have c8 := k8.cell
      have l7 := k7.lt
      have l8 := k8.lt
      have hEc : Ext W W1 := hE.trans (hE1.trans hX1)
      obtain ⟨hU1, _⟩ := (hg1.ext hX1).rd.rows
      rcases hal with ⟨f1, _⟩ | ⟨_, f2⟩
      · omega
      · have e0 : ((k : Int) == 32) = true := by simp; omega
        have e1 : (y.2.1 != 15) = false := by simp [f2]
        clear f2
        go_upto_region 11 with fail
        have cO2 := (kO.ext hEc).cell
        have hgc2 := hgW.ext hEc
        obtain ⟨kk, hkk, hk32'⟩ := mod_ex hh 32 (by omega)
        have hdf := drop_facts hv hk32'
        obtain ⟨y2, hy2⟩ : ∃ y2, doT g 7 ((kk : Int) + 1) 0 0 = y2 := ⟨_, rfl⟩
        rw [hy2] at hdf
        obtain ⟨q1, q2, q3, u, q4, q5⟩ := hdf
        have Hy2 := Lib.hid hy2
        have Q1 := Lib.hid q1
        have Q2 := Lib.hid q2
        have Q3 := Lib.hid q3
        have Q4 := Lib.hid q4
        have Q5 := Lib.hid q5
        clear hy2 q1 q2 q3 q4 q5 hgc hU1
        have hkI : ((32 : Nat) : Int) = 32 := rfl
        rw [hkI] at hkk
        go_upto_region 13 with (first | (go_at_call 11; refine (mod_to hh 32 kk _ (by omega) (by omega) hkk).mono ?_; rintro e w1 ⟨rfl, rfl⟩) | (go_at_call 10; refine (do10_drop2 _ g kk _ y2 Hy2.out hgc2 hv (by omega)).mono ?_; rintro e w1 ⟨v2, rfl, hg2, hE2⟩; (obtain ⟨w2, rfl⟩ : ∃ w2, w2 = w1 := ⟨_, rfl⟩); (obtain ⟨A2, a2, B2, b2, C2, c2, rfl⟩ := hg2.sl)))
        have k10 : Blk ((w2.alloc (.cells #[.slice A2 y2.1.ns.length a2, .slice B2 y2.1.us.length b2, .slice C2 y2.1.rs.length c2] 26)).alloc (.cells #[.int .i64 y2.2.1, .int .u64 y2.2.2] 33)) w2.heap.size 26 #[.slice A2 y2.1.ns.length a2, .slice B2 y2.1.us.length b2, .slice C2 y2.1.rs.length c2] := Blk.alloc (Blk.new rfl) _
        have k11 : Blk ((w2.alloc (.cells #[.slice A2 y2.1.ns.length a2, .slice B2 y2.1.us.length b2, .slice C2 y2.1.rs.length c2] 26)).alloc (.cells #[.int .i64 y2.2.1, .int .u64 y2.2.2] 33)) (w2.heap.size + 1) 33 #[.int .i64 y2.2.1, .int .u64 y2.2.2] := Blk.new (by simp)
        have hX2 : Ext w2 ((w2.alloc (.cells #[.slice A2 y2.1.ns.length a2, .slice B2 y2.1.us.length b2, .slice C2 y2.1.rs.length c2] 26)).alloc (.cells #[.int .i64 y2.2.1, .int .u64 y2.2.2] 33)) := by (repeat (first | (with_reducible exact Ext.refl _) | assumption | (with_reducible refine Ext.alloc ?_ _) | (with_reducible refine Ext.drew ?_) | (with_reducible refine Ext.drewL ?_) | refine Ext.trans ?_ (by assumption)))
        generalize (w2.alloc (.cells #[.slice A2 y2.1.ns.length a2, .slice B2 y2.1.us.length b2, .slice C2 y2.1.rs.length c2] 26)).alloc (.cells #[.int .i64 y2.2.1, .int .u64 y2.2.2] 33) = W2 at k10 k11 hX2 ⊢
        have hE12 : Ext W1 W2 := hE2.trans hX2
        have hEc2 : Ext W W2 := hEc.trans hE12
        have hUg := hU.ext hEc2
        obtain ⟨hU2, _⟩ := (hg2.ext hX2).rd.rows
        obtain ⟨b13, o13, hA13, hc13⟩ := rd_vb hUg Q4.out
        cases hA13
        obtain ⟨b14, o14, rfl, hc14⟩ := rd_vb hU2 Q2.out
        have c10 := k10.cell
        have c11 := k11.cell
        have cOo := (kO.ext hEc2).cell
        have l10 := k10.lt
        have l11 := k11.lt
        have l13 := cell_lt hc13
        have l14 := cell_lt hc14
        have q5 := Q5.out
        have uu : (u != u) = false := by cases u <;> rfl
        have w1' : 1 + (kk : Int) - 1 = kk := by omega
        have w2' : kk < g.us.length := by have := Hlu.out; omega
        have w3' : (kk : Int) < g.us.length := by omega
        have w4' : kk < y2.1.us.length := by have := Q1.out; omega
        have w5' : (kk : Int) < y2.1.us.length := by omega
        have w6' : ((y2.1.us.length : Int) != 32) = false := by have := Q1.out; simp; omega
        have hEw2 := hEW.trans hEc2
        have hlb : (g.us.length : Int) ≤ 1000 := by have := Hlu.out; omega
        clear k7 k8 hX1 c7 c8 l7 l8 cO2 hgc2 hg1 hgW hEW hX2 hE2 hE12
        refine wp_region_ext [(true, 0), (true, 1), (true, 2), (true, 3), (true, 4), (true, 5), (true, 6), (true, 7), (true, 8), (true, 9), (true, 10), (true, 11), (true, 12), (true, 13), (true, 14), (true, 15)] Try.mixed (by kernel_rfl) (by simp only [pick, List.filterMap_cons, List.filterMap_nil, List.getElem?_toArray, List.getElem?_cons_succ, List.getElem?_cons_zero, Option.map_some]; rfl) ?_
        intro hx
        repeat (first
          | (refine wpL_take hx (v := ?_) (by rfl) (fun _ hc => ?_) ?_
             rotate_left
             focus (go_simp; (try go_ints); exact rfl)
             simp only [Act.put, List.setIfInBounds_toArray, List.set_cons_zero, List.set_cons_succ])
          | (refine wpL_skip (by rfl) ?_; simp only [Act.put, List.setIfInBounds_toArray, List.set_cons_zero, List.set_cons_succ])
          | (refine wpL_call (by rfl) (fun K hK => ?_); go_simp; (first | (refine hK _ _ ?_ ?_; (focus ((repeat (first | (with_reducible exact Ext.refl _) | assumption | (with_reducible refine Ext.alloc ?_ _) | (with_reducible refine Ext.drew ?_) | (with_reducible refine Ext.drewL ?_) | refine Ext.trans ?_ (by assumption))); done))) | (refine hK undef _ ?_ ?_; (focus ((repeat (first | (with_reducible exact Ext.refl _) | assumption | (with_reducible refine Ext.alloc ?_ _) | (with_reducible refine Ext.drew ?_) | (with_reducible refine Ext.drewL ?_) | refine Ext.trans ?_ (by assumption))); done)))); clear hK; intro hr; replace hx := hx.trans hr; clear hr; try simp only [Act.put, List.setIfInBounds_toArray, List.set_cons_zero, List.set_cons_succ]))
        refine wpL_end ?_
        go_wp2_with fail
        clear c10 c11 cOo hc13 hc14 hx
        go_loopw [92] (fun t wx => ∃ j : Nat, j ≤ g.us.length ∧ t = .int .i64 j ∧ Ext W2 wx) (fun t _ => g.us.length - (intOf t).toNat)
        case atStart => exact ⟨0, by omega, rfl, Ext.drew (Ext.refl _)⟩
        case round =>
          obtain ⟨j, hj, rfl, hEx⟩ := hrel
          have c10 := (k10.ext hEx).cell
          have c11 := (k11.ext hEx).cell
          have cOo := ((kO.ext hEc2).ext hEx).cell
          by_cases hjl : j < g.us.length
          · have hdec : decide ((j : Int) < g.us.length) = true := by simp; omega
            have hdec' : decide (j < g.us.length) = true := by simp; omega
            by_cases hjk : j = kk
            · have n1 : ((j : Int) != kk) = false := by simp [hjk]
              have jb : (j : Int) ≤ 1000 := by omega
              go_upto_region 18 with fail
              refine wp_region_ext [(true, 0), (true, 1), (true, 2), (true, 3), (true, 4), (true, 5), (true, 6), (true, 7), (true, 8), (true, 9), (true, 10), (true, 11), (true, 12), (true, 13), (true, 14), (true, 15), (true, 16)] Try.mixed (by kernel_rfl) (by simp only [pick, List.filterMap_cons, List.filterMap_nil, List.getElem?_toArray, List.getElem?_cons_succ, List.getElem?_cons_zero, Option.map_some]; rfl) ?_
              intro hx
              repeat (first
                | (refine wpL_take hx (v := ?_) (by rfl) (fun _ hc => ?_) ?_
                   rotate_left
                   focus (go_simp; (try go_ints); exact rfl)
                   simp only [Act.put, List.setIfInBounds_toArray, List.set_cons_zero, List.set_cons_succ])
                | (refine wpL_skip (by rfl) ?_; simp only [Act.put, List.setIfInBounds_toArray, List.set_cons_zero, List.set_cons_succ])
                | (refine wpL_call (by rfl) (fun K hK => ?_); go_simp; (first | (refine hK _ _ ?_ ?_; (focus ((repeat (first | (with_reducible exact Ext.refl _) | assumption | (with_reducible refine Ext.alloc ?_ _) | (with_reducible refine Ext.drew ?_) | (with_reducible refine Ext.drewL ?_) | refine Ext.trans ?_ (by assumption))); done))) | (refine hK undef _ ?_ ?_; (focus ((repeat (first | (with_reducible exact Ext.refl _) | assumption | (with_reducible refine Ext.alloc ?_ _) | (with_reducible refine Ext.drew ?_) | (with_reducible refine Ext.drewL ?_) | refine Ext.trans ?_ (by assumption))); done)))); clear hK; intro hr; replace hx := hx.trans hr; clear hr; try simp only [Act.put, List.setIfInBounds_toArray, List.set_cons_zero, List.set_cons_succ]))
              refine wpL_end ?_
              go_wp2
              go_roundw
              case rel => exact ⟨j + 1, by omega, by go_num, Ext.drew hEx⟩
              case measure => first | (simp [intOf]; done) | (simp [intOf]; omega)
            · have n1 : ((j : Int) != kk) = true := by simp; omega
              obtain ⟨v, hv1⟩ : ∃ v, g.us[j]? = some v := ⟨_, List.getElem?_eq_getElem hjl⟩
              have hv2 : y2.1.us[j]? = some v := by rw [Q3.out j hjk, hv1]
              obtain ⟨b15, o15, hA15, hc15⟩ := rd_vb (hUg.ext hEx) hv1
              cases hA15
              obtain ⟨b16, o16, hA16, hc16⟩ := rd_vb (hU2.ext hEx) hv2
              cases hA16
              have l15 := cell_lt hc15
              have l16 := cell_lt hc16
              have vv : (v != v) = false := by cases v <;> rfl
              have j1 : j < y2.1.us.length := (List.getElem?_eq_some_iff.1 hv2).1
              have j2 : (j : Int) < y2.1.us.length := by omega
              have j3 : (j : Int) < g.us.length := by omega
              have jb : (j : Int) ≤ 1000 := by omega
              clear hv1 hv2
              go_upto_region 18 with fail
              refine wp_region_ext [(true, 0), (true, 1), (true, 2), (true, 3), (true, 4), (true, 5), (true, 6), (true, 7), (true, 8), (true, 9), (true, 10), (true, 11), (true, 12), (true, 13), (true, 14), (true, 15), (true, 16)] Try.mixed (by kernel_rfl) (by simp only [pick, List.filterMap_cons, List.filterMap_nil, List.getElem?_toArray, List.getElem?_cons_succ, List.getElem?_cons_zero, Option.map_some]; rfl) ?_
              intro hx
              repeat (first
                | (refine wpL_take hx (v := ?_) (by rfl) (fun _ hc => ?_) ?_
                   rotate_left
                   focus (go_simp; (try go_ints); exact rfl)
                   simp only [Act.put, List.setIfInBounds_toArray, List.set_cons_zero, List.set_cons_succ])
                | (refine wpL_skip (by rfl) ?_; simp only [Act.put, List.setIfInBounds_toArray, List.set_cons_zero, List.set_cons_succ])
                | (refine wpL_call (by rfl) (fun K hK => ?_); go_simp; (first | (refine hK _ _ ?_ ?_; (focus ((repeat (first | (with_reducible exact Ext.refl _) | assumption | (with_reducible refine Ext.alloc ?_ _) | (with_reducible refine Ext.drew ?_) | (with_reducible refine Ext.drewL ?_) | refine Ext.trans ?_ (by assumption))); done))) | (refine hK undef _ ?_ ?_; (focus ((repeat (first | (with_reducible exact Ext.refl _) | assumption | (with_reducible refine Ext.alloc ?_ _) | (with_reducible refine Ext.drew ?_) | (with_reducible refine Ext.drewL ?_) | refine Ext.trans ?_ (by assumption))); done)))); clear hK; intro hr; replace hx := hx.trans hr; clear hr; try simp only [Act.put, List.setIfInBounds_toArray, List.set_cons_zero, List.set_cons_succ]))
              refine wpL_end ?_
              go_wp2
              go_roundw
              case rel => exact ⟨j + 1, by omega, by go_num, Ext.drew hEx⟩
              case measure => first | (simp [intOf]; done) | (simp [intOf]; omega)
          · have hdec : decide ((j : Int) < g.us.length) = false := by simp; omega
            have hdec' : decide (j < g.us.length) = false := by simp; omega
            obtain ⟨b14', o14', hA14, hc14⟩ := rd_vb (hU2.ext hEx) Q2.out
            cases hA14
            go_wp2
            go_ret
            exact ⟨rfl, hEw2.trans hEx⟩
end Go.Proofs.Ytamghjilcfeheaa
