/- The walks of Check and Complete. Conditions: the ranges that each theorem states. -/
import Derived.Test.YtkioemeohofpcaaH
namespace Go.Proofs.Ytkioemeohofpcaa
open Go.RowKit Go.Draw

def okRule (n k : Nat) (r : Nat × Int × Int × Int) : Prop := okX r.1 = true ∧ 0 ≤ r.2.1 ∧ r.2.1 ≤ 64 ∧ 0 ≤ r.2.2.1 ∧ r.2.2.1 ≤ 64 ∧ (k + 1 = n → r.2.1 = 0 ∧ r.2.2.2 = k) ∧ (k + 1 ≠ n → (k : Int) < r.2.2.2 ∧ r.2.2.2 < n)
def markB (l : List (Nat × Int × Int × Int)) (n : Nat) : Nat → Nat → Bool
  | 0, j => j == 0
  | k + 1, j => markB l n k j || (decide (k + 1 < n) && (l[k]?.map (·.2.2.2) == some (j : Int)))
def cellsB (l : List (Nat × Int × Int × Int)) (n k : Nat) : Array Value := #[.bool (markB l n k 0), .bool (markB l n k 1), .bool (markB l n k 2), .bool (markB l n k 3)]
theorem cellsB_last {l : List (Nat × Int × Int × Int)} {n k : Nat} (h : k + 1 = n) : cellsB l n (k + 1) = cellsB l n k := by
  have : decide (k + 1 < n) = false := by simp; omega
  simp [cellsB, markB, this]
theorem cellsB_set {l : List (Nat × Int × Int × Int)} {n k t : Nat} {r : Nat × Int × Int × Int} (h : k + 1 < n) (hn : n ≤ 4) (hl : l[k]? = some r) (ht : r.2.2.2 = (t : Int)) (htn : t < n) : (cellsB l n k).set! t (.bool true) = cellsB l n (k + 1) := by
  have h1 : decide (k + 1 < n) = true := by simpa using h
  have : t = 0 ∨ t = 1 ∨ t = 2 ∨ t = 3 := by omega
  rcases this with rfl | rfl | rfl | rfl <;> simp [cellsB, markB, h1, hl, ht]
theorem cellsB_at (l : List (Nat × Int × Int × Int)) (n k : Nat) {t : Nat} (h : t < 4) : ∃ u, (cellsB l n k)[t]? = some (.bool u) := by
  have : t = 0 ∨ t = 1 ∨ t = 2 ∨ t = 3 := by omega
  rcases this with rfl | rfl | rfl | rfl <;> exact ⟨_, rfl⟩
theorem cellsB_true {l : List (Nat × Int × Int × Int)} {n : Nat} (hm : ∀ j, j < n → markB l n n j = true) {t : Nat} (h : t < n) (hn : n ≤ 4) : (cellsB l n n)[t]? = some (.bool true) := by
  have : t = 0 ∨ t = 1 ∨ t = 2 ∨ t = 3 := by omega
  rcases this with rfl | rfl | rfl | rfl <;> simp [cellsB, hm _ h]
def GoodC (l : List (Nat × Int × Int × Int)) (n : Nat) : Prop := l.length = n ∧ 1 ≤ n ∧ n ≤ 4 ∧ (∀ k r, l[k]? = some r → okRule n k r) ∧ (∀ j, j < n → markB l n n j = true)
/-- is the last share zero -/
def lastZ (l : List (Nat × Int × Int × Int)) (n : Nat) (z : Bool) (full : Int) : Prop := ∃ r, l[n - 1]? = some r ∧ ((z = true ∧ FloatKind.f64.format.order r.1 0 = some .eq ∧ 1 ≤ full ∧ full ≤ 64) ∨ (z = false ∧ FloatKind.f64.format.order r.1 0 = some .gt ∧ full = 0))
set_option maxRecDepth 100000 in
set_option maxHeartbeats 2000000 in
theorem check_any (s : ByteArray) (A : Option Addr) (n c : Nat) (l : List (Nat × Int × Int × Int)) (full : Int) (z : Bool) (w : World) (hA : Rd w A n 4 (flatR l)) (hs : okName s) (hg : GoodC l n) (hz : lastZ l n z full) :
    Calls Try.prog 19 #[.agg #[.string s, .slice A n c, .int .i64 full]] w fun e w' => e = .returned (.int .i64 0) ∧ Ext w w' := by
  obtain ⟨hl, hn1, hn4, hr, hm⟩ := hg
  have Hl := Lib.hid hl
  have Hr := Lib.hid hr
  have Hm := Lib.hid hm
  have Hz := Lib.hid hz
  have Hs := Lib.hid hs
  clear hl hr hm hz
  have hsf := fun (a : Addr) (x : Nat) (W : World) => run_store Try.prog W a (.float .f64 x) .plain rfl
  have c1 : decide ((n : Int) < 1) = false := by simp; omega
  have c2 : decide ((4 : Int) < n) = false := by simp; omega
  have c3 : decide (n < 1) = false := by simp; omega
  have c4 : decide (4 < n) = false := by simp; omega
  have c5 : (n == 0) = false := by simp; omega
  go_enter Try.func19, Try.ntmps19
  go_wp2_with (first | (go_at_call 28; refine (named_any _ _ hs).mono ?_; rintro e w1 ⟨rfl, rfl⟩) | (go_at_call 29; refine (valid_any _ _ (by assumption)).mono ?_; rintro e w1 ⟨rfl, rfl⟩))
  go_loopw [27] (fun i wr => ∃ k : Nat, k ≤ n ∧ i = .int .i64 k ∧ Ext w wr ∧ Blk wr w.heap.size 28 #[.string s, .slice A n c, .int .i64 full] ∧ Blk wr (w.heap.size + 1) 57 (cellsB l n k)) (fun i _ => n - (intOf i).toNat)
  case atStart => exact ⟨0, by omega, rfl, by (repeat (first | (with_reducible exact Ext.refl _) | assumption | (with_reducible refine Ext.alloc ?_ _) | (with_reducible refine Ext.drew ?_) | (with_reducible refine Ext.drewL ?_) | refine Ext.trans ?_ (by assumption))), Blk.alloc (Blk.new rfl) _, Blk.new (by simp)⟩
  case round =>
    obtain ⟨k, hk, rfl, hE, k1, k2⟩ := hrel
    have m1 := k1.cell
    have m2 := k2.cell
    have f2 := k2.froz
    have l1 := k1.lt
    have l2 := k2.lt
    by_cases hlt : k < n
    · have hdec : decide ((k : Int) < n) = true := by simp; omega
      have hdec' : decide (k < n) = true := by simp; omega
      have hkb : (k : Int) < n := by omega
      obtain ⟨r, hrk⟩ : ∃ r, l[k]? = some r := ⟨_, List.getElem?_eq_getElem (by rw [Hl.out]; exact hlt)⟩
      obtain ⟨b, o, rfl, a0, a1, a2, a3⟩ := rule_at (hA.ext hE) hrk hlt
      have la := cell_lt a0
      obtain ⟨g1, g2, g3, g4, g5, g6, g7⟩ := Hr.out k r hrk
      obtain ⟨x, y, v, t⟩ := r
      have Hrk := Lib.hid hrk
      simp only at a0 a1 a2 a3 g1 g2 g3 g4 g5 g6 g7
      clear hrk hA
      have e1 : decide (y < 0) = false := by simp; omega
      have e2 : decide (64 < y) = false := by simp; omega
      have e3 : decide (v < 0) = false := by simp; omega
      have e4 : decide (64 < v) = false := by simp; omega
      by_cases hlast : k + 1 = n
      · obtain ⟨rfl, rfl⟩ := g6 hlast
        have e5 : ((k : Int) == (n : Int) - 1) = true := by simp; omega
        clear g6 g7
        go_wp2_with (first | (go_at_call 28; refine (named_any _ _ hs).mono ?_; rintro e w1 ⟨rfl, rfl⟩) | (go_at_call 29; refine (valid_any _ _ (by assumption)).mono ?_; rintro e w1 ⟨rfl, rfl⟩))
        go_roundw
        case rel => exact ⟨k + 1, by omega, by go_num, by (repeat (first | (with_reducible exact Ext.refl _) | assumption | (with_reducible refine Ext.alloc ?_ _) | (with_reducible refine Ext.drew ?_) | (with_reducible refine Ext.drewL ?_) | refine Ext.trans ?_ (by assumption))), k1.ext (by (repeat (first | (with_reducible exact Ext.refl _) | assumption | (with_reducible refine Ext.alloc ?_ _) | (with_reducible refine Ext.drew ?_) | (with_reducible refine Ext.drewL ?_) | refine Ext.trans ?_ (by assumption)))), by rw [cellsB_last hlast]; exact k2.ext (by (repeat (first | (with_reducible exact Ext.refl _) | assumption | (with_reducible refine Ext.alloc ?_ _) | (with_reducible refine Ext.drew ?_) | (with_reducible refine Ext.drewL ?_) | refine Ext.trans ?_ (by assumption))))⟩
        case measure => simp [intOf]; omega
      · obtain ⟨h1, h2⟩ := g7 hlast
        have e5 : ((k : Int) == (n : Int) - 1) = false := by simp; omega
        have e6 : decide (t ≤ (k : Int)) = false := by simp; omega
        have e7 : decide ((n : Int) ≤ t) = false := by simp; omega
        obtain ⟨tt, rfl⟩ : ∃ tt : Nat, t = tt := ⟨t.toNat, by omega⟩
        have e8 : decide (tt ≤ k) = false := by simp; omega
        have e9 : decide (n ≤ tt) = false := by simp; omega
        obtain ⟨ub, hub⟩ := cellsB_at l n k (show tt < 4 by omega)
        clear g6 g7
        have hB : But [w.heap.size + 1] wr ((wr.setCell ⟨w.heap.size + 1, tt, none⟩ (.bool true)).alloc (.cells #[.float .f64 x, .int .i64 y, .int .i64 v, .int .i64 tt] 41)) := But.alloc (But.setCell (But.refl _ _) (by simp) _) _
        go_wp2_with (first | (go_at_call 28; refine (named_any _ _ hs).mono ?_; rintro e w1 ⟨rfl, rfl⟩) | (go_at_call 29; refine (valid_any _ _ (by assumption)).mono ?_; rintro e w1 ⟨rfl, rfl⟩))
        go_roundw
        case rel => exact ⟨k + 1, by omega, by go_num, But.ext hE hB (fun q hq => by have := List.mem_singleton.1 hq; omega), k1.but hB (fun hq => by have := List.mem_singleton.1 hq; omega), by rw [← cellsB_set (by omega) hn4 Hrk.out rfl (by omega)]; rw [Array.set!_eq_setIfInBounds]; exact (k2.set_ tt (.bool true)).alloc _⟩
        case measure => simp [intOf]; omega
    · have hdec : decide ((k : Int) < n) = false := by simp; omega
      have hdec' : decide (k < n) = false := by simp; omega
      have hkn : k = n := by omega
      subst hkn
      obtain ⟨r, hrl, hzz⟩ := Hz.out
      obtain ⟨b, o, rfl, a0, _⟩ := rule_at (hA.ext hE) hrl (by omega)
      have la := cell_lt a0
      have q1 : ((k - 1 : Nat) : Int) = (k : Int) - 1 := by omega
      go_wp2_with fail
      go_loopw [8] (fun i w2 => ∃ j : Nat, j ≤ k ∧ i = .int .i64 j ∧ w2 = wr) (fun i _ => k - (intOf i).toNat)
      case atStart => exact ⟨0, by omega, rfl, rfl⟩
      case round =>
        obtain ⟨j, hj, rfl, rfl⟩ := hrel
        by_cases hjn : j < k
        · have d1 : decide ((j : Int) < k) = true := by simp; omega
          have d2 : decide (j < k) = true := by simp; omega
          have hjI : (j : Int) < 4 := by omega
          have hub := cellsB_true Hm.out hjn hn4
          go_wp2
          go_roundw
          case rel => exact ⟨j + 1, by omega, by go_num, by trivial⟩
          case measure => simp [intOf]; omega
        · have d1 : decide ((j : Int) < k) = false := by simp; omega
          have d2 : decide (j < k) = false := by simp; omega
          obtain ⟨x, y, v, t⟩ := r
          simp only at a0 hzz
          rcases hzz with ⟨rfl, z1, z2, z3⟩ | ⟨rfl, z1, rfl⟩
          · have z4 : decide (full < 1) = false := by simp; omega
            have z5 : decide (64 < full) = false := by simp; omega
            go_wp2
            go_ret
            exact ⟨rfl, by (repeat (first | (with_reducible exact Ext.refl _) | assumption | (with_reducible refine Ext.alloc ?_ _) | (with_reducible refine Ext.drew ?_) | (with_reducible refine Ext.drewL ?_) | refine Ext.trans ?_ (by assumption)))⟩
          · go_wp2
            go_ret
            exact ⟨rfl, by (repeat (first | (with_reducible exact Ext.refl _) | assumption | (with_reducible refine Ext.alloc ?_ _) | (with_reducible refine Ext.drew ?_) | (with_reducible refine Ext.drewL ?_) | refine Ext.trans ?_ (by assumption)))⟩
end Go.Proofs.Ytkioemeohofpcaa
