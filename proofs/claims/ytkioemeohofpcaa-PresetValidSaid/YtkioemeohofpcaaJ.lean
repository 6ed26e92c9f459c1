/- The walks of Complete and Print. Conditions: the ranges that each theorem states. -/
import Derived.Test.YtkioemeohofpcaaI
namespace Go.Proofs.Ytkioemeohofpcaa
open Go.RowKit Go.Draw

set_option maxRecDepth 100000 in
set_option maxHeartbeats 2000000 in
theorem complete_any (s : ByteArray) (A : Option Addr) (n c : Nat) (l : List (Nat × Int × Int × Int)) (full : Int) (z : Bool) (w : World) (hA : Rd w A n 4 (flatR l)) (hs : okName s) (hg : GoodC l n) (hz : lastZ l n z full) :
    Calls Try.prog 14 #[.agg #[.string s, .slice A n c, .int .i64 full]] w fun e w' => e = .returned (.bool z) ∧ Ext w w' := by
  have Hg := Lib.hid hg
  have Hz := Lib.hid hz
  clear hg hz
  go_enter Try.func14, Try.ntmps14
  go_wp2_with fail
  go_at_call 19
  refine (check_any _ _ _ _ _ _ _ _ (hA.ext (by (repeat (first | (with_reducible exact Ext.refl _) | assumption | (with_reducible refine Ext.alloc ?_ _) | (with_reducible refine Ext.drew ?_) | (with_reducible refine Ext.drewL ?_) | refine Ext.trans ?_ (by assumption))))) hs Hg.out Hz.out).mono ?_
  rintro e w1 ⟨rfl, hE1⟩
  obtain ⟨r, hrl, hzz⟩ := Hz.out
  obtain ⟨b, o, rfl, a0, _⟩ := rule_at (hA.ext (Ext.trans (by (repeat (first | (with_reducible exact Ext.refl _) | assumption | (with_reducible refine Ext.alloc ?_ _) | (with_reducible refine Ext.drew ?_) | (with_reducible refine Ext.drewL ?_) | refine Ext.trans ?_ (by assumption)))) hE1)) hrl (by have := Hg.out.2.1; omega)
  have la := cell_lt a0
  have q1 : ((n - 1 : Nat) : Int) = (n : Int) - 1 := by have := Hg.out.2.1; omega
  have q2 : (0 : Int) ≤ (n : Int) - 1 := by have := Hg.out.2.1; omega
  have q3 : ((n : Int) - 1).toNat = n - 1 := by omega
  have q4 : 1 ≤ n := Hg.out.2.1
  have q5 : n ≤ 4 := Hg.out.2.2.1
  have k1 := blk_of_ext hE1
  have m1 := k1.cell
  have l1 := k1.lt
  obtain ⟨x, y, v, t⟩ := r
  simp only at a0 hzz
  clear hA
  rcases hzz with ⟨rfl, z1, z2, z3⟩ | ⟨rfl, z1, rfl⟩
  · go_wp2
    go_ret
    exact ⟨rfl, by (repeat (first | (with_reducible exact Ext.refl _) | assumption | (with_reducible refine Ext.alloc ?_ _) | (with_reducible refine Ext.drew ?_) | (with_reducible refine Ext.drewL ?_) | refine Ext.trans ?_ (by assumption)))⟩
  · go_wp2
    go_ret
    exact ⟨rfl, by (repeat (first | (with_reducible exact Ext.refl _) | assumption | (with_reducible refine Ext.alloc ?_ _) | (with_reducible refine Ext.drew ?_) | (with_reducible refine Ext.drewL ?_) | refine Ext.trans ?_ (by assumption)))⟩
theorem pct_zero : pctX ((0 : Nat) : Int) = 0 := by decide +kernel
def PrR (l : List (Nat × Int × Int × Int)) : Prop := ∀ (k : Nat) (r : Nat × Int × Int × Int), l[k]? = some r → ∃ i : Nat, i ≤ 100 ∧ r.1 = pctX (i : Int) ∧ 0 ≤ r.2.1 ∧ r.2.1 < 10 ∧ 0 ≤ r.2.2.1 ∧ r.2.2.1 < 10 ∧ 0 ≤ r.2.2.2 ∧ r.2.2.2 < 10
set_option maxRecDepth 100000 in
set_option maxHeartbeats 4000000 in
theorem print_any (s : ByteArray) (A : Option Addr) (n c : Nat) (l : List (Nat × Int × Int × Int)) (full : Int) (z : Bool) (w : World) (hA : Rd w A n 4 (flatR l)) (hs : okName s) (hg : GoodC l n) (hz : lastZ l n z full) (hp : PrR l) (hf0 : 0 ≤ full) (hf1 : full < 10) :
    Calls Try.prog 13 #[.agg #[.string s, .slice A n c, .int .i64 full]] w fun e w' => ∃ T : ByteArray, e = .returned (.tuple #[.string T, .int .i64 0]) ∧ 1 ≤ T.size ∧ Ext w w' := by
  have hadd : ∀ (a b : ByteArray) (W : World), a.size + b.size ≤ 1000 → (Op.stringOp .add a b).run Try.prog W = .ok (.string (a ++ b)) W := fun a b W ha => run_string_add_sum _ a b (by omega)
  have hs1 := hs.1
  have hs2 := hs.2.1
  have y1 : s.size ≤ 994 := by omega
  have y2 : s.size ≤ 993 := by omega
  have y3 : s.size ≤ 991 := by omega
  have Hg := Lib.hid hg
  have Hz := Lib.hid hz
  have Hp := Lib.hid hp
  have n4 := hg.2.2.1
  clear hg hz hp
  have hsf := fun (a : Addr) (x : Nat) (W : World) => run_store Try.prog W a (.float .f64 x) .plain rfl
  go_enter Try.func13, Try.ntmps13
  go_wp2_with fail
  go_at_call 19
  refine (check_any _ _ _ _ _ _ _ _ (hA.ext (by (repeat (first | (with_reducible exact Ext.refl _) | assumption | (with_reducible refine Ext.alloc ?_ _) | (with_reducible refine Ext.drew ?_) | (with_reducible refine Ext.drewL ?_) | refine Ext.trans ?_ (by assumption))))) hs Hg.out Hz.out).mono ?_
  rintro e w1 ⟨rfl, hE1⟩
  have k1 := blk_of_ext hE1
  have m1 := k1.cell
  have l1 := k1.lt
  have hEE : Ext w w1 := Ext.trans (by (repeat (first | (with_reducible exact Ext.refl _) | assumption | (with_reducible refine Ext.alloc ?_ _) | (with_reducible refine Ext.drew ?_) | (with_reducible refine Ext.drewL ?_) | refine Ext.trans ?_ (by assumption)))) hE1
  go_upto_region 4 with fail
  refine wp_region_ext [(true, 0), (true, 1), (true, 2), (true, 3), (true, 4), (false, 5), (true, 6), (true, 7), (true, 8)] Try.mixed (by kernel_rfl) (by simp only [pick, List.filterMap_cons, List.filterMap_nil, List.getElem?_toArray, List.getElem?_cons_succ, List.getElem?_cons_zero, Option.map_some]; rfl) ?_
  intro hx
  repeat (first
    | (refine wpL_take hx (v := ?_) (by rfl) (fun _ hc => ?_) ?_
       rotate_left
       focus (go_simp; (try go_ints); exact rfl)
       simp only [Act.put, List.setIfInBounds_toArray, List.set_cons_zero, List.set_cons_succ])
    | (refine wpL_skip (by rfl) ?_; simp only [Act.put, List.setIfInBounds_toArray, List.set_cons_zero, List.set_cons_succ])
    | (refine wpL_call (by rfl) (fun K hK => ?_); go_simp; go_at_call 20; refine (dig1 _ _ (by omega) (by omega)).mono ?_; rintro e w1 ⟨rfl, hE2⟩; have k1 := k1.ext (Ext.trans (by (repeat (first | (with_reducible exact Ext.refl _) | assumption | (with_reducible refine Ext.alloc ?_ _) | (with_reducible refine Ext.drew ?_) | (with_reducible refine Ext.drewL ?_) | refine Ext.trans ?_ (by assumption)))) hE2); have m1 := k1.cell; have l1 := k1.lt; refine hK _ _ (hE2) ?_; clear hK; intro hr; replace hx := hx.trans hr; clear hr; simp only [Act.put, List.setIfInBounds_toArray, List.set_cons_zero, List.set_cons_succ])
    | (refine wpL_call (by rfl) (fun K hK => ?_); go_simp; (first | (refine hK _ _ ?_ ?_; (focus ((repeat (first | (with_reducible exact Ext.refl _) | assumption | (with_reducible refine Ext.alloc ?_ _) | (with_reducible refine Ext.drew ?_) | (with_reducible refine Ext.drewL ?_) | refine Ext.trans ?_ (by assumption))); done))) | (refine hK undef _ ?_ ?_; (focus ((repeat (first | (with_reducible exact Ext.refl _) | assumption | (with_reducible refine Ext.alloc ?_ _) | (with_reducible refine Ext.drew ?_) | (with_reducible refine Ext.drewL ?_) | refine Ext.trans ?_ (by assumption))); done)))); clear hK; intro hr; replace hx := hx.trans hr; clear hr; try simp only [Act.put, List.setIfInBounds_toArray, List.set_cons_zero, List.set_cons_succ]))
  refine wpL_end ?_
  have hEE := Ext.trans hEE (show Ext _ w1 by (repeat (first | (with_reducible exact Ext.refl _) | assumption | (with_reducible refine Ext.alloc ?_ _) | (with_reducible refine Ext.drew ?_) | (with_reducible refine Ext.drewL ?_) | refine Ext.trans ?_ (by assumption))))
  rename World => w9
  go_wp2_with fail
  go_loopw [26, 5] (fun i t wr => ∃ (k : Nat) (T : ByteArray), k ≤ n ∧ i = .int .i64 k ∧ t = .string T ∧ 1 ≤ T.size ∧ T.size ≤ 100 + 100 * k ∧ Ext w wr ∧ Blk wr w.heap.size 28 #[.string s, .slice A n c, .int .i64 full]) (fun i t _ => n - (intOf i).toNat)
  case atStart => exact ⟨0, _, by omega, rfl, rfl, by simp [ByteArray.size_append]; omega, by simp only [ByteArray.size_append, ByteArray.size_mk']; simp; omega, hEE, k1⟩
  case round =>
    obtain ⟨k, T, hk, rfl, rfl, hT1, hT2, hE, k1⟩ := hrel
    clear y1 y2 y3
    have hT3 : T.size ≤ 500 := by omega
    have m1 := k1.cell
    have l1 := k1.lt
    by_cases hlt : k < n
    · have hdec : decide ((k : Int) < n) = true := by simp; omega
      have hdec' : decide (k < n) = true := by simp; omega
      have hkb : (k : Int) < n := by omega
      obtain ⟨r, hrk⟩ : ∃ r, l[k]? = some r := ⟨_, List.getElem?_eq_getElem (by rw [Hg.out.1]; exact hlt)⟩
      obtain ⟨b, o, rfl, a0, a1, a2, a3⟩ := rule_at (hA.ext hE) hrk hlt
      have la := cell_lt a0
      obtain ⟨i, hi, hx, g2, g3, g4, g5, g6, g7⟩ := Hp.out k r hrk
      obtain ⟨x, y, v, t⟩ := r
      simp only at a0 a1 a2 a3 hx g2 g3 g4 g5 g6 g7
      subst hx
      have Hrk := Lib.hid hrk
      clear hrk hA
      have y1 : T.size ≤ 998 := by omega
      go_upto_if 40 with (first | (go_at_call 21; refine (topct_any _ _ hi).mono ?_; rintro e w1 ⟨rfl, rfl⟩))
      have kr : Blk (wr.alloc (.cells #[.float .f64 (pctX i), .int .i64 y, .int .i64 v, .int .i64 t] 41)) wr.heap.size 41 #[.float .f64 (pctX i), .int .i64 y, .int .i64 v, .int .i64 t] := Blk.new rfl
      have hX := Ext.alloc (Ext.refl wr) (.cells #[.float .f64 (pctX i), .int .i64 y, .int .i64 v, .int .i64 t] 41)
      generalize hW : wr.alloc (.cells #[.float .f64 (pctX i), .int .i64 y, .int .i64 v, .int .i64 t] 41) = W at kr hX ⊢
      clear hW a0 a1 a2 a3 la hsf m1 l1
      go_cut [5] (fun t wx => ∃ U : ByteArray, t = .string U ∧ 1 ≤ U.size ∧ U.size ≤ T.size + 2 ∧ wx = W)
      case first =>
        by_cases h0 : k = 0
        · subst h0
          go_wp2
          go_meet
          exact ⟨T, rfl, hT1, by omega, by trivial⟩
        · have p1 : decide ((0 : Int) < k) = true := by simp; omega
          have p2 : decide (0 < k) = true := by simp; omega
          go_wp2
          go_meet
          exact ⟨T ++ ⟨#[44, 32]⟩, rfl, by simp only [ByteArray.size_append]; omega, by simp only [ByteArray.size_append, ByteArray.size_mk']; simp, by trivial⟩
      case rest =>
        obtain ⟨U, rfl, hU1, hU2, hWW⟩ := hcut
        rw [hWW]
        clear hWW
        clear y1
        have y1 : U.size ≤ 997 := by omega
        go_upto_if 44 with fail
        go_cut [5] (fun t wx => ∃ V : ByteArray, t = .string V ∧ 1 ≤ V.size ∧ V.size ≤ U.size + 5 ∧ Ext W wx)
        case first =>
          by_cases h0 : i = 0
          · subst h0
            go_wp2
            go_meet
            exact ⟨U ++ ⟨#[97, 108, 108]⟩, rfl, by simp only [ByteArray.size_append]; omega, by simp only [ByteArray.size_append, ByteArray.size_mk']; simp, by (repeat (first | (with_reducible exact Ext.refl _) | assumption | (with_reducible refine Ext.alloc ?_ _) | (with_reducible refine Ext.drew ?_) | (with_reducible refine Ext.drewL ?_) | refine Ext.trans ?_ (by assumption)))⟩
          · have p1 : ((i : Int) == 0) = false := by simp; omega
            have p2 : (i == 0) = false := by simp; omega
            go_wp2_with (first | (go_at_call 20; refine (dig3s _ _ (by omega) (by omega)).mono ?_; rintro e w1 ⟨s3, rfl, ⟨hs3, hs4⟩, hE3⟩; have j1 : s3.size ≤ 999 := (by omega); have j2 : U.size + s3.size ≤ 999 := (by omega); have j3 : U.size + (s3.size + 1) ≤ 1000 := (by omega)))
            go_meet
            exact ⟨U ++ (s3 ++ ⟨#[37]⟩), rfl, by simp only [ByteArray.size_append]; omega, by simp only [ByteArray.size_append, ByteArray.size_mk']; simp; omega, by (repeat (first | (with_reducible exact Ext.refl _) | assumption | (with_reducible refine Ext.alloc ?_ _) | (with_reducible refine Ext.drew ?_) | (with_reducible refine Ext.drewL ?_) | refine Ext.trans ?_ (by assumption)))⟩
        case rest =>
          obtain ⟨V, rfl, hV1, hV2, hEW⟩ := hcut
          clear y1
          have y1 : V.size ≤ 993 := by omega
          have y2 : V.size ≤ 994 := by omega
          have kr := kr.ext hEW
          have mr := kr.cell
          have lr := kr.lt
          go_upto_region 16 with fail
          refine wp_region_ext [(true, 0), (true, 1), (true, 2), (true, 6), (true, 7), (true, 11), (true, 12), (false, 3), (true, 4), (true, 5), (false, 8), (true, 9), (true, 10), (false, 13), (true, 14), (true, 15), (true, 16)] Try.mixed (by kernel_rfl) (by simp only [pick, List.filterMap_cons, List.filterMap_nil, List.getElem?_toArray, List.getElem?_cons_succ, List.getElem?_cons_zero, Option.map_some]; rfl) ?_
          intro hx
          repeat (first
            | (refine wpL_take hx (v := ?_) (by rfl) (fun _ hc => ?_) ?_
               rotate_left
               focus (go_simp; (try go_ints); exact rfl)
               simp only [Act.put, List.setIfInBounds_toArray, List.set_cons_zero, List.set_cons_succ])
            | (refine wpL_skip (by rfl) ?_; simp only [Act.put, List.setIfInBounds_toArray, List.set_cons_zero, List.set_cons_succ])
            | (refine wpL_call (by rfl) (fun K hK => ?_); go_simp; go_at_call 20; refine (dig1 _ _ (by omega) (by omega)).mono ?_; rintro e w1 ⟨rfl, hE2⟩; have kr := kr.ext (Ext.trans (by (repeat (first | (with_reducible exact Ext.refl _) | assumption | (with_reducible refine Ext.alloc ?_ _) | (with_reducible refine Ext.drew ?_) | (with_reducible refine Ext.drewL ?_) | refine Ext.trans ?_ (by assumption)))) hE2); have mr := kr.cell; have lr := kr.lt; refine hK _ _ (hE2) ?_; clear hK; intro hr; replace hx := hx.trans hr; clear hr; simp only [Act.put, List.setIfInBounds_toArray, List.set_cons_zero, List.set_cons_succ])
            | (refine wpL_call (by rfl) (fun K hK => ?_); go_simp; (first | (refine hK _ _ ?_ ?_; (focus ((repeat (first | (with_reducible exact Ext.refl _) | assumption | (with_reducible refine Ext.alloc ?_ _) | (with_reducible refine Ext.drew ?_) | (with_reducible refine Ext.drewL ?_) | refine Ext.trans ?_ (by assumption))); done))) | (refine hK undef _ ?_ ?_; (focus ((repeat (first | (with_reducible exact Ext.refl _) | assumption | (with_reducible refine Ext.alloc ?_ _) | (with_reducible refine Ext.drew ?_) | (with_reducible refine Ext.drewL ?_) | refine Ext.trans ?_ (by assumption))); done)))); clear hK; intro hr; replace hx := hx.trans hr; clear hr; try simp only [Act.put, List.setIfInBounds_toArray, List.set_cons_zero, List.set_cons_succ]))
          refine wpL_end ?_
          have hE9 : Ext wr w1 := hX.trans (hEW.trans (by (repeat (first | (with_reducible exact Ext.refl _) | assumption | (with_reducible refine Ext.alloc ?_ _) | (with_reducible refine Ext.drew ?_) | (with_reducible refine Ext.drewL ?_) | refine Ext.trans ?_ (by assumption)))))
          go_wp2_with fail
          go_roundw
          case rel => exact ⟨k + 1, _, by omega, by go_num, rfl, by simp only [ByteArray.size_append]; omega, by simp only [ByteArray.size_append, ByteArray.size_mk']; simp; omega, hE.trans hE9, k1.ext hE9⟩
          case measure => simp [intOf]; omega
    · have hdec : decide ((k : Int) < n) = false := by simp; omega
      have hdec' : decide (k < n) = false := by simp; omega
      go_wp2
      exact bodyPost_ret (v := .tuple #[.string T, .int .i64 0]) (by simp [results, Try.results13, go_sem]) rfl ⟨T, rfl, hT1, hE⟩
end Go.Proofs.Ytkioemeohofpcaa
