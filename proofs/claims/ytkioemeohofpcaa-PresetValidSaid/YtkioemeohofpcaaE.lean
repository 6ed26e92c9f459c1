/- The walks of Same, Names, Mod and awake. Conditions: the ranges that each theorem states. -/
import Derived.Test.YtkioemeohofpcaaD
import Derived.Deep.DeepCutAuto
import Derived.LoopN
namespace Go.Proofs.Ytkioemeohofpcaa
open Go.RowKit Go.Draw

theorem mod_any (v n : Int) (w : World) (h1 : 1 ≤ n) (h2 : n ≤ 9223372036854775807) :
    Calls Try.prog 8 #[.int .i64 v, .int .i64 n] w fun e w' => e = .returned (.int .i64 (v % n)) ∧ w = w' := by
  go_enter Try.func8, Try.ntmps8
  go_wp2
  · go_ret
    exact ⟨ret_int (tmod_lt h1 h2 (by assumption)), rfl⟩
  · go_ret
    exact ⟨ret_int (tmod_ge h1 (by assumption)), rfl⟩
theorem mod_to (v n : Int) (i : Nat) (w : World) (h1 : 1 ≤ n) (h2 : n ≤ 9223372036854775807) (h : v % n = (i : Int)) :
    Calls Try.prog 8 #[.int .i64 v, .int .i64 n] w fun e w' => e = .returned (.int .i64 (i : Int)) ∧ w = w' := by
  rw [← h]; exact mod_any v n w h1 h2
theorem mod_ex (v : Int) (L : Nat) (h : L ≠ 0) : ∃ i : Nat, v % (L : Int) = (i : Int) ∧ i < L := by
  have h1 := Int.emod_nonneg v (show (L : Int) ≠ 0 by omega)
  have h2 := Int.emod_lt_of_pos v (show (0 : Int) < L by omega)
  exact ⟨(v % (L : Int)).toNat, by omega, by omega⟩

def names : Array Value := #[.string sSemi, .string sAppel, .string sFixed, .string sOlder, .string sXx, .string sXx100]
theorem names_any (w : World) : Calls Try.prog 6 #[] w fun e w' => e = .returned (.slice (some ⟨w.heap.size, 0, none⟩) 6 6) ∧ w' = w.alloc (.cells names 9) := by
  simp only [names, sSemi, sAppel, sFixed, sOlder, sXx, sXx100]
  go_enter Try.func6, Try.ntmps6
  go_wp2
  go_ret
  exact ⟨rfl, rfl⟩
theorem rnames_any (w : World) : Calls Try.prog 7 #[] w fun e w' => e = .returned (.slice (some ⟨w.heap.size, 0, none⟩) 6 6) ∧ w' = w.alloc (.cells names 9) := by
  simp only [names, sSemi, sAppel, sFixed, sOlder, sXx, sXx100]
  go_enter Try.func7, Try.ntmps7
  go_wp2
  go_ret
  exact ⟨rfl, rfl⟩

theorem bits_run (x : Nat) (w : World) : (callFunc 18 #[.float .f64 x]).run Try.prog w = .ok (.value (.int .u64 x)) w := by
  rw [run_callFunc_extern (e := Extern.MathFloatBits.float64bits) (fn := Try.f18) Try.func18 (by kernel_rfl) (by kernel_rfl) (by kernel_rfl) (by kernel_rfl)]
  rfl
theorem flatR_at : ∀ (l : List (Nat × Int × Int × Int)) (k : Nat) (r : Nat × Int × Int × Int), l[k]? = some r → (flatR l)[k * 4]? = some (.float .f64 r.1) ∧ (flatR l)[k * 4 + 1]? = some (.int .i64 r.2.1) ∧ (flatR l)[k * 4 + 2]? = some (.int .i64 r.2.2.1) ∧ (flatR l)[k * 4 + 3]? = some (.int .i64 r.2.2.2)
  | [], k, r, h => by simp at h
  | b :: l, 0, r, h => by
    simp only [List.getElem?_cons_zero, Option.some.injEq] at h
    subst h
    exact ⟨rfl, rfl, rfl, rfl⟩
  | b :: l, k + 1, r, h => by
    simp only [List.getElem?_cons_succ] at h
    obtain ⟨h0, h1, h2, h3⟩ := flatR_at l k r h
    have e : ∀ j, (flatR (b :: l))[(k + 1) * 4 + j]? = (flatR l)[k * 4 + j]? := fun j => by
      rw [flatR, List.getElem?_append_right (by simp [ruleC]; omega)]
      congr 1
      simp [ruleC]; omega
    exact ⟨by rw [← h0]; exact e 0, by rw [← h1]; exact e 1, by rw [← h2]; exact e 2, by rw [← h3]; exact e 3⟩
theorem rule_at {w : World} {A : Option Addr} {n : Nat} {l : List (Nat × Int × Int × Int)} (h : Rd w A n 4 (flatR l)) {k : Nat} {r : Nat × Int × Int × Int} (hk : l[k]? = some r) (hn : k < n) :
    ∃ b o, A = some ⟨b, o, none⟩ ∧ w.cell? ⟨b, o + k * 4, none⟩ = some (.float .f64 r.1) ∧ w.cell? ⟨b, o + k * 4 + 1, none⟩ = some (.int .i64 r.2.1) ∧ w.cell? ⟨b, o + k * 4 + 2, none⟩ = some (.int .i64 r.2.2.1) ∧ w.cell? ⟨b, o + k * 4 + 3, none⟩ = some (.int .i64 r.2.2.2) := by
  obtain ⟨b, o, rfl, hc⟩ := h.2 (by omega)
  obtain ⟨h0, h1, h2, h3⟩ := flatR_at l k r hk
  exact ⟨b, o, rfl, hc _ _ h0, hc _ _ h1, hc _ _ h2, hc _ _ h3⟩

set_option maxRecDepth 100000 in
set_option maxHeartbeats 2000000 in
theorem same_any (s : ByteArray) (A B : Option Addr) (n c d : Nat) (l : List (Nat × Int × Int × Int)) (f : Int) (w : World) (hA : Rd w A n 4 (flatR l)) (hB : Rd w B n 4 (flatR l)) (hl : l.length = n) (hn : n ≤ 100) :
    Calls Try.prog 11 #[.agg #[.string s, .slice A n c, .int .i64 f], .agg #[.string s, .slice B n d, .int .i64 f]] w fun e w' => e = .returned (.bool true) ∧ Ext w w' := by
  have Hl := Lib.hid hl
  have hbits := fun x W => bits_run x W
  have hsf := fun (a : Addr) (x : Nat) (W : World) => run_store Try.prog W a (.float .f64 x) .plain rfl
  clear hl
  go_enter Try.func11, Try.ntmps11
  go_wp2
  go_loopw [32] (fun i wr => ∃ k : Nat, k ≤ n ∧ i = .int .i64 k ∧ Ext ((w.alloc (.cells #[.string s, .slice A n c, .int .i64 f] 28)).alloc (.cells #[.string s, .slice B n d, .int .i64 f] 28)) wr) (fun i _ => n - (intOf i).toNat)
  case atStart => exact ⟨0, by omega, rfl, Ext.refl _⟩
  case round =>
    obtain ⟨k, hk, rfl, hE⟩ := hrel
    have hE0 : Ext w wr := Ext.trans (by (repeat (first | (with_reducible exact Ext.refl _) | assumption | (with_reducible refine Ext.alloc ?_ _) | (with_reducible refine Ext.drew ?_) | (with_reducible refine Ext.drewL ?_) | refine Ext.trans ?_ (by assumption)))) hE
    have kB : Blk wr (w.heap.size + 1) 28 #[.string s, .slice B n d, .int .i64 f] := (Blk.new (by simp)).ext hE
    have cB := kB.cell
    have lB := kB.lt
    by_cases hlt : k < n
    · have hdec : decide ((k : Int) < n) = true := by simp; omega
      have hdec' : decide (k < n) = true := by simp; omega
      have hkb : (k : Int) < n := by omega
      obtain ⟨r, hr⟩ : ∃ r, l[k]? = some r := ⟨_, List.getElem?_eq_getElem (by rw [Hl.out]; exact hlt)⟩
      obtain ⟨b, o, rfl, a0, a1, a2, a3⟩ := rule_at (hA.ext hE0) hr hlt
      obtain ⟨b', o', rfl, e0, e1, e2, e3⟩ := rule_at (hB.ext hE0) hr hlt
      have la := cell_lt a0
      have lb := cell_lt e0
      obtain ⟨x, y, z, t⟩ := r
      simp only at a0 a1 a2 a3 e0 e1 e2 e3
      clear hr hA hB
      go_upto_region 7 with fail
      refine wp_region_ext [(true, 0), (true, 1), (true, 3), (true, 4), (false, 2), (false, 5), (true, 6), (true, 7), (true, 8), (true, 9), (true, 10), (true, 11), (true, 12), (true, 13), (true, 14), (true, 15), (true, 16), (true, 17), (true, 18), (true, 19), (true, 20), (true, 21), (true, 22), (true, 23), (true, 24), (true, 25), (true, 26), (true, 27)] Try.mixed (by kernel_rfl) (by simp only [pick, List.filterMap_cons, List.filterMap_nil, List.getElem?_toArray, List.getElem?_cons_succ, List.getElem?_cons_zero, Option.map_some]; rfl) ?_
      intro hx
      repeat (first
        | (refine wpL_take hx (v := ?_) (by rfl) (fun _ hc => ?_) ?_
           rotate_left
           focus (go_simp; (try go_ints); exact rfl)
           simp only [Act.put, List.setIfInBounds_toArray, List.set_cons_zero, List.set_cons_succ])
        | (refine wpL_skip (by rfl) ?_; simp only [Act.put, List.setIfInBounds_toArray, List.set_cons_zero, List.set_cons_succ])
        | (refine wpL_call (by rfl) (fun K hK => ?_); go_simp; (first | (refine hK _ _ ?_ ?_; (focus ((repeat (first | (with_reducible exact Ext.refl _) | assumption | (with_reducible refine Ext.alloc ?_ _) | (with_reducible refine Ext.drew ?_) | (with_reducible refine Ext.drewL ?_) | refine Ext.trans ?_ (by assumption))); done))) | (refine hK undef _ ?_ ?_; (focus ((repeat (first | (with_reducible exact Ext.refl _) | assumption | (with_reducible refine Ext.alloc ?_ _) | (with_reducible refine Ext.drew ?_) | (with_reducible refine Ext.drewL ?_) | refine Ext.trans ?_ (by assumption))); done)))); clear hK; intro hr; replace hx := hx.trans hr; clear hr; try simp only [Act.put, List.setIfInBounds_toArray, List.set_cons_zero, List.set_cons_succ]))
      refine wpL_end ?_
      go_wp2
      go_roundw
      case rel => exact ⟨k + 1, by omega, by go_num, by (repeat (first | (with_reducible exact Ext.refl _) | assumption | (with_reducible refine Ext.alloc ?_ _) | (with_reducible refine Ext.drew ?_) | (with_reducible refine Ext.drewL ?_) | refine Ext.trans ?_ (by assumption)))⟩
      case measure => simp [intOf]; omega
    · have hdec : decide ((k : Int) < n) = false := by simp; omega
      have hdec' : decide (k < n) = false := by simp; omega
      go_wp2
      go_ret
      exact ⟨rfl, by (repeat (first | (with_reducible exact Ext.refl _) | assumption | (with_reducible refine Ext.alloc ?_ _) | (with_reducible refine Ext.drew ?_) | (with_reducible refine Ext.drewL ?_) | refine Ext.trans ?_ (by assumption)))⟩
end Go.Proofs.Ytkioemeohofpcaa
