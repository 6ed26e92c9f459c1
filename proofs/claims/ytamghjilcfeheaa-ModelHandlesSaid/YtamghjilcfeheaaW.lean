/- The walk of the reference's Live. Conditions: the ranges that each theorem states. -/
import Derived.Test.YtamghjilcfeheaaV
namespace Go.Proofs.Ytamghjilcfeheaa
open Go.RowKit Go.Draw

set_option maxRecDepth 100000 in
set_option maxHeartbeats 2000000 in
theorem live19_any (v : Value) (g : Gr) (w : World) (hg : GRd w v g) (hv : Vld g) (hb : Bd g) : Calls Try.prog 19 #[v] w fun r w' => r = .returned (.int .i64 (liveT g)) ∧ Ext w w' := by
  obtain ⟨A0, a0, B0, b0, C0, c0, rfl⟩ := hg.sl
  have hb0 := hb.1
  have hle := sum_le hb.2.2.2
  have hll := reachL_len g
  clear hb
  go_enter Try.func19, Try.ntmps19
  go_wp2_with (first | (go_at_call 17; refine (reach17_any _ g _ (hg.ext (by (repeat (first | (with_reducible exact Ext.refl _) | assumption | (with_reducible refine Ext.alloc ?_ _) | (with_reducible refine Ext.drew ?_) | (with_reducible refine Ext.drewL ?_) | refine Ext.trans ?_ (by assumption))))) hv hb0).mono ?_; rintro e w1 ⟨A, c, rfl, hO, hE1⟩; have k1 := (blk_of_ext hE1); have m1 := k1.cell))
  have hg1 := hg.ext ((Ext.alloc (Ext.refl w) (.cells #[.slice A0 g.ns.length a0, .slice B0 g.us.length b0, .slice C0 g.rs.length c0] 26)).trans hE1)
  have hEw : Ext w w1 := (Ext.alloc (Ext.refl w) _).trans hE1
  have hz := hEw.size_le
  simp only [nats_len] at hO ⊢
  have hRd := Rd.of_own hO
  clear hO hg
  obtain ⟨L, hL⟩ : ∃ L, reachL g = L := ⟨_, rfl⟩
  have hLt : ∀ n ∈ L, n < g.ns.length := fun n hn => reachL_lt (by rw [hL]; exact hn)
  have HL := Lib.hid (show liveT g = sumL g L by unfold liveT; rw [hL])
  rw [hL] at hRd hll ⊢
  have hle2 : ∀ k, sumL g (L.take k) ≤ 6001000 := fun k => by
    have h1 := hle (L.take k)
    have h2 : (L.take k).length ≤ L.length := by simp; omega
    omega
  clear hL hle
  have HLt := Lib.hid hLt
  clear hLt
  go_loopw [3, 9] (fun t i wr => ∃ k : Nat, k ≤ L.length ∧ i = .int .i64 k ∧ t = .int .i64 (sumL g (L.take k)) ∧ Ext w1 wr) (fun _ i _ => L.length - (intOf i).toNat)
  case atStart => exact ⟨0, by omega, rfl, rfl, Ext.refl _⟩
  case round =>
    clear m1
    obtain ⟨k, hk, rfl, rfl, hEr⟩ := hrel
    have m1 := (k1.ext hEr).cell
    have hS := hle2 k
    obtain ⟨S, hSe⟩ : ∃ S, sumL g (L.take k) = S := ⟨_, rfl⟩
    rw [hSe] at hS ⊢
    have HS := Lib.hid hSe
    clear hSe
    by_cases hlt : k < L.length
    · have hdec : decide ((k : Int) < L.length) = true := by simp; omega
      have hdec' : decide (k < L.length) = true := by simp; omega
      have hkb : (k : Int) < L.length := by omega
      obtain ⟨n, hn⟩ : ∃ n, L[k]? = some n := ⟨_, List.getElem?_eq_getElem hlt⟩
      have hnl := HLt.out n (List.mem_of_getElem? hn)
      obtain ⟨bb, oo, u, rfl, hu, hc⟩ := (hRd.ext hEr).at_ hlt
      have hu2 : (ints (nats L))[k]? = some (.int .i64 (n : Int)) := ints_at (by simp [nats, hn])
      rw [hu2] at hu
      injection hu with hu
      subst hu
      obtain ⟨x, hx⟩ : ∃ x, g.ns[n]? = some x := ⟨_, List.getElem?_eq_getElem hnl⟩
      obtain ⟨ba, oa, R, cR, D, cD, rfl, q0, q1, _, _, lq⟩ := (hg1.ext hEr).node hx
      have hnd := hv.nd n x hx
      have x1 := hnd.1
      have x2 := hnd.2.1
      have Hn := Lib.hid hn
      have Hx := Lib.hid hx
      have lbb := cell_lt hc
      have nb : (n : Int) < g.ns.length := by omega
      clear hn hx hnd hu2
      go_upto_region 5 with fail
      refine wp_region_ext [(true, 0), (true, 1), (true, 2), (true, 3), (true, 4), (true, 5), (true, 6), (true, 7), (true, 8), (true, 9), (true, 10), (true, 11), (true, 12), (true, 13), (true, 14), (true, 15), (true, 16), (true, 17), (true, 18)] Try.mixed (by kernel_rfl) (by simp only [pick, List.filterMap_cons, List.filterMap_nil, List.getElem?_toArray, List.getElem?_cons_succ, List.getElem?_cons_zero, Option.map_some]; rfl) ?_
      intro hx
      repeat (first
        | (refine wpL_take hx (v := ?_) (by rfl) (fun _ hc => ?_) ?_
           rotate_left
           focus (go_simp; (try go_ints); exact rfl)
           simp only [Act.put, List.setIfInBounds_toArray, List.set_cons_zero, List.set_cons_succ])
        | (refine wpL_skip (by rfl) ?_; simp only [Act.put, List.setIfInBounds_toArray, List.set_cons_zero, List.set_cons_succ])
        | (refine wpL_call (by rfl) (fun K hK => ?_); go_simp; (first | (refine hK _ _ ?_ ?_; (focus ((repeat (first | (with_reducible exact Ext.refl _) | assumption | (with_reducible refine Ext.alloc ?_ _) | (with_reducible refine Ext.drew ?_) | (with_reducible refine Ext.drewL ?_) | refine Ext.trans ?_ (by assumption))); done))) | (refine hK undef _ ?_ ?_; (focus ((repeat (first | (with_reducible exact Ext.refl _) | assumption | (with_reducible refine Ext.alloc ?_ _) | (with_reducible refine Ext.drew ?_) | (with_reducible refine Ext.drewL ?_) | refine Ext.trans ?_ (by assumption))); done)))); clear hK; intro hr; replace hx := hx.trans hr; clear hr; try simp only [Act.put, List.setIfInBounds_toArray, List.set_cons_zero, List.set_cons_succ]))
      refine wpL_end ?_
      go_wp2
      go_roundw
      case rel =>
        refine ⟨k + 1, by omega, by go_num, ?_, by (repeat (first | (with_reducible exact Ext.refl _) | assumption | (with_reducible refine Ext.alloc ?_ _) | (with_reducible refine Ext.drew ?_) | (with_reducible refine Ext.drewL ?_) | refine Ext.trans ?_ (by assumption)))⟩
        rw [List.take_add_one, Hn.out, Option.toList_some, sum_snoc, HS.out, List.getD_eq_getElem?_getD, Hx.out]
        simp only [Option.getD_some, wordsOf]
        go_num
      case measure => simp [intOf]; omega
    · have hdec : decide ((k : Int) < L.length) = false := by simp; omega
      have hdec' : decide (k < L.length) = false := by simp; omega
      have hkn : k = L.length := by omega
      subst hkn
      go_wp2
      go_ret
      exact ⟨ret_int (by rw [HL.out, ← HS.out, List.take_length]), hEw.trans hEr⟩
end Go.Proofs.Ytamghjilcfeheaa
