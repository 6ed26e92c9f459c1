/- The walks of bump.Frames, bump.Extra and frame.Valid (references). Conditions: the ranges that each theorem states. -/
import Derived.Test.YtljkadpconghnaaSpcE
namespace Go.Proofs.Ytljkadpconghnaa
open Go.RowKit Go.Draw

def incV (x : Ch) (wd : Nat) : Value := .agg #[.int .i64 x.q, .int .i64 x.b, .int .i64 (posI x.c 0), .int .i64 (lastI x.c), .int .i64 wd]
set_option maxRecDepth 100000 in
set_option maxHeartbeats 1000000 in
theorem frames_gen (A Bf : Option Addr) (a b : Nat) (S : Sp) (q b1 f l : Int) (wd B : Nat) (w : World) (h1 : 3 ≤ S.sh ∧ S.sh ≤ 8) (hB : 2 ^ S.sh = B) (hw : wd ≤ 100000) :
    Calls Try.prog 71 #[spV S A a Bf b, .agg #[.int .i64 q, .int .i64 b1, .int .i64 f, .int .i64 l, .int .i64 wd]] w fun r w' => r = .returned (.int .i64 (ceilN wd B : Nat)) ∧ Ext w w' := by
  have hb1 := (pow_bd h1).1
  have hb2 := (pow_bd h1).2
  rw [hB] at hb1 hb2
  unfold spV
  go_enter Try.func71, Try.ntmps71
  go_wp2_with (first | (go_at_call 72; refine (ceil_any _ B _ _ hB (by omega) (by omega) (by omega) (by omega)).mono ?_; rintro e w1 ⟨rfl, rfl⟩))
  go_ret
  exact ⟨rfl, by (repeat (first | (with_reducible exact Ext.refl _) | assumption | (with_reducible refine Ext.alloc ?_ _) | (with_reducible refine Ext.drew ?_) | (with_reducible refine Ext.drewL ?_) | refine Ext.trans ?_ (by assumption)))⟩
theorem frames_any (A Bf : Option Addr) (a b : Nat) (S : Sp) (x : Ch) (wd B : Nat) (w : World) (h1 : 3 ≤ S.sh ∧ S.sh ≤ 8) (hB : 2 ^ S.sh = B) (hw : wd ≤ 100000) :
    Calls Try.prog 71 #[spV S A a Bf b, incV x wd] w fun r w' => r = .returned (.int .i64 (ceilN wd B : Nat)) ∧ Ext w w' :=
  frames_gen A Bf a b S _ _ _ _ wd B w h1 hB hw
theorem ceil_cast (z : Int) (n B sh : Nat) (w : World) (hB : 2 ^ sh = B) (hz : z = (n : Int)) (h8 : sh ≤ 8) (hn : n ≤ 1000000) (h1 : 1 ≤ B) (h2 : B ≤ 256) :
    Calls Try.prog 72 #[.int .i64 z, .int .i64 sh] w fun r w' => r = .returned (.int .i64 (ceilN n B : Nat)) ∧ w = w' := by
  subst hz
  exact ceil_any n B sh w hB h8 hn h1 h2
theorem ceilN_le (n B : Nat) (hB : 1 ≤ B) : ceilN n B ≤ n := by
  unfold ceilN
  rcases Nat.eq_zero_or_pos n with rfl | h
  · rw [Nat.zero_add, Nat.div_eq_of_lt (by omega)]
    exact Nat.le_refl _
  · rw [Nat.div_le_iff_le_mul (by omega)]
    have : n * 1 ≤ n * B := Nat.mul_le_mul_left _ hB
    have h3 : B ≤ n * B := by have := Nat.mul_le_mul_right B h; omega
    omega
set_option maxRecDepth 100000 in
set_option maxHeartbeats 1000000 in
theorem extra_any (A Bf : Option Addr) (a b : Nat) (S : Sp) (x : Ch) (wd n B : Nat) (w : World) (h1 : 3 ≤ S.sh ∧ S.sh ≤ 8) (hB : 2 ^ S.sh = B) (hw : wd ≤ 100000) (hn : n ≤ 1000) :
    Calls Try.prog 59 #[spV S A a Bf b, incV x wd, .int .i64 n] w fun r w' => r = .returned (.int .i64 ((ceilN (wd + n) B : Nat) - (ceilN wd B : Nat) : Int)) ∧ Ext w w' := by
  have hb1 := (pow_bd h1).1
  have hb2 := (pow_bd h1).2
  rw [hB] at hb1 hb2
  have hc1 := ceilN_le (wd + n) B (by omega)
  have hc2 := ceilN_le wd B (by omega)
  have hwn : (wd : Int) + (n : Int) = ((wd + n : Nat) : Int) := by omega
  have Hwn := Lib.hid hwn
  clear hwn
  unfold spV incV
  go_enter Try.func59, Try.ntmps59
  go_wp2
  have hsum : IntKind.i64.wrap ((wd : Int) + n) = (wd : Int) + n := IntWalk.i64_in _ (by omega)
  refine wp_region_ext [(true, 0), (true, 1), (true, 2), (true, 3), (true, 4), (true, 5), (true, 7), (true, 8), (false, 6), (false, 9), (true, 10), (true, 11)] Try.mixed (by kernel_rfl) (by simp only [pick, List.filterMap_cons, List.filterMap_nil, List.getElem?_toArray, List.getElem?_cons_succ, List.getElem?_cons_zero, Option.map_some]; rfl) ?_
  intro hx
  repeat (first
    | (refine wpL_take hx (v := ?_) (by rfl) (fun _ hc => ?_) ?_
       rotate_left
       focus (go_simp; (try go_ints); exact rfl)
       simp only [Act.put, List.setIfInBounds_toArray, List.set_cons_zero, List.set_cons_succ])
    | (refine wpL_skip (by rfl) ?_; simp only [Act.put, List.setIfInBounds_toArray, List.set_cons_zero, List.set_cons_succ])
    | (refine wpL_call (by rfl) (fun K hK => ?_); go_simp; go_at_call 72; refine (ceil_cast _ _ _ _ _ hB Hwn.out (by omega) (by omega) (by omega) (by omega)).mono ?_; rintro e w1 ⟨rfl, rfl⟩; refine hK _ _ (Ext.refl _) ?_; clear hK; intro hr; replace hx := hx.trans hr; clear hr; simp only [Act.put, List.setIfInBounds_toArray, List.set_cons_zero, List.set_cons_succ])
    | (refine wpL_call (by rfl) (fun K hK => ?_); go_simp; go_at_call 71; refine (frames_any A Bf a b S x wd B _ h1 hB hw).mono ?_; rintro e w1 ⟨rfl, hE1⟩; refine hK _ _ (hE1) ?_; clear hK; intro hr; replace hx := hx.trans hr; clear hr; simp only [Act.put, List.setIfInBounds_toArray, List.set_cons_zero, List.set_cons_succ])
    | (refine wpL_call (by rfl) (fun K hK => ?_); go_simp; (first | (refine hK _ _ ?_ ?_; (focus ((repeat (first | (with_reducible exact Ext.refl _) | assumption | (with_reducible refine Ext.alloc ?_ _) | (with_reducible refine Ext.drew ?_) | (with_reducible refine Ext.drewL ?_) | refine Ext.trans ?_ (by assumption))); done))) | (refine hK undef _ ?_ ?_; (focus ((repeat (first | (with_reducible exact Ext.refl _) | assumption | (with_reducible refine Ext.alloc ?_ _) | (with_reducible refine Ext.drew ?_) | (with_reducible refine Ext.drewL ?_) | refine Ext.trans ?_ (by assumption))); done)))); clear hK; intro hr; replace hx := hx.trans hr; clear hr; try simp only [Act.put, List.setIfInBounds_toArray, List.set_cons_zero, List.set_cons_succ]))
  refine wpL_end ?_
  go_wp2
  go_ret
  exact ⟨rfl, by (repeat (first | (with_reducible exact Ext.refl _) | assumption | (with_reducible refine Ext.alloc ?_ _) | (with_reducible refine Ext.drew ?_) | (with_reducible refine Ext.drewL ?_) | refine Ext.trans ?_ (by assumption)))⟩
end Go.Proofs.Ytljkadpconghnaa
