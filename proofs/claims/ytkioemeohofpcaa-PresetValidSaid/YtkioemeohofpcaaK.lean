/- The walk of the law PresetValid. Conditions: the ranges that each theorem states. -/
import Derived.Test.YtkioemeohofpcaaJ
namespace Go.Proofs.Ytkioemeohofpcaa
open Go.RowKit Go.Draw

def flagsT (s : ByteArray) (z : Bool) : Prop := ((s.toList == [111, 108, 100, 101, 114, 45, 102, 105, 114, 115, 116]) = true ∧ z = false) ∨ ((s.toList == [111, 108, 100, 101, 114, 45, 102, 105, 114, 115, 116]) = false ∧ (s.toList == [120, 120]) = true ∧ z = false) ∨ ((s.toList == [111, 108, 100, 101, 114, 45, 102, 105, 114, 115, 116]) = false ∧ (s.toList == [120, 120]) = false ∧ z = true)
def AllOk (s : ByteArray) (p : Int) : Prop := ∃ l full z, getT s p = (s, l, full, 0) ∧ okName s ∧ GoodC l l.length ∧ lastZ l l.length z full ∧ PrR l ∧ 0 ≤ full ∧ full < 10 ∧ flagsT s z
theorem zero_eq : FloatKind.f64.format.order 0 0 = some .eq := by decide +kernel
theorem okX0 : okX 0 = true := by decide +kernel
theorem pct_gt {k : Nat} (h0 : 1 ≤ k) (h : k ≤ 100) : FloatKind.f64.format.order (pctX (k : Int)) 0 = some .gt := by
  have h1 := pct_ok h
  have h2 := pct_ne (i := 0) (j := k) (by omega) h
  rw [pct_zero] at h2
  unfold okX at h1
  have b0 : (pctX (k : Int) == 0) = false := by simp; omega
  simp only [b0, Bool.false_or, Bool.and_eq_true, beq_iff_eq] at h1
  exact h1.1
theorem good_e {p : Int} (h0 : 1 ≤ p) (h1 : p ≤ 100) : pctE p = 0 ∧ p ≠ 0 := ⟨by unfold pctE; rw [if_pos (by omega)], by omega⟩
theorem at1 {P : Nat → Nat × Int × Int × Int → Prop} {a : Nat × Int × Int × Int} (h : P 0 a) : ∀ k r, [a][k]? = some r → P k r := fun k r hk => by
  match k with
  | 0 => simp only [List.getElem?_cons_zero, Option.some.injEq] at hk; subst hk; exact h
  | k + 1 => simp at hk
theorem at2 {P : Nat → Nat × Int × Int × Int → Prop} {a b : Nat × Int × Int × Int} (h : P 0 a) (h1 : P 1 b) : ∀ k r, [a, b][k]? = some r → P k r := fun k r hk => by
  match k with
  | 0 => simp only [List.getElem?_cons_zero, Option.some.injEq] at hk; subst hk; exact h
  | 1 => simp only [List.getElem?_cons_succ, List.getElem?_cons_zero, Option.some.injEq] at hk; subst hk; exact h1
  | k + 2 => simp at hk
theorem at3 {P : Nat → Nat × Int × Int × Int → Prop} {a b c : Nat × Int × Int × Int} (h : P 0 a) (h1 : P 1 b) (h2 : P 2 c) : ∀ k r, [a, b, c][k]? = some r → P k r := fun k r hk => by
  match k with
  | 0 => simp only [List.getElem?_cons_zero, Option.some.injEq] at hk; subst hk; exact h
  | 1 => simp only [List.getElem?_cons_succ, List.getElem?_cons_zero, Option.some.injEq] at hk; subst hk; exact h1
  | 2 => simp only [List.getElem?_cons_succ, List.getElem?_cons_zero, Option.some.injEq] at hk; subst hk; exact h2
  | k + 3 => simp at hk
theorem mk1 {X : Nat} {y v t : Int} : ∀ j, j < 1 → markB [(X, y, v, t)] 1 1 j = true := fun j hj => by
  have : j = 0 := by omega
  subst this; rfl
theorem mk2 {X X' : Nat} {y v y' v' t : Int} : ∀ j, j < 2 → markB [(X, y, v, 1), (X', y', v', t)] 2 2 j = true := fun j hj => by
  have : j = 0 ∨ j = 1 := by omega
  rcases this with rfl | rfl <;> rfl
theorem mk3 {X X' X'' : Nat} {y v y' v' y'' v'' t : Int} : ∀ j, j < 3 → markB [(X, y, v, 1), (X', y', v', 2), (X'', y'', v'', t)] 3 3 j = true := fun j hj => by
  have : j = 0 ∨ j = 1 ∨ j = 2 := by omega
  rcases this with rfl | rfl | rfl <;> rfl
theorem allok (s : ByteArray) {i : Nat} (hi : i < 100) (hs : s = sSemi ∨ s = sAppel ∨ s = sFixed ∨ s = sOlder ∨ s = sXx ∨ s = sXx100) : AllOk s (1 + (i : Int)) := by
  have hp0 : (1 : Int) ≤ 1 + (i : Int) := by omega
  have hp1 : (1 + (i : Int)) ≤ 100 := by omega
  have hge := good_e hp0 hp1
  have hok := pct_ok (k := 1 + i) (by omega)
  have hgt := pct_gt (k := 1 + i) (by omega) (by omega)
  have hpx : ∃ j : Nat, j ≤ 100 ∧ pctX ((1 + i : Nat) : Int) = pctX (j : Int) := ⟨1 + i, by omega, rfl⟩
  have h0x : ∃ j : Nat, j ≤ 100 ∧ (0 : Nat) = pctX (j : Int) := ⟨0, by omega, pct_zero.symm⟩
  have hc : ((1 + i : Nat) : Int) = 1 + (i : Int) := by omega
  obtain ⟨n1, n2, n3, n4, n5, n6⟩ := named_six
  rw [hc] at hok hgt hpx
  generalize 1 + (i : Int) = p at *
  rcases hs with rfl | rfl | rfl | rfl | rfl | rfl
  · refine ⟨[(0, 0, 0, 0)], 1, true, ?_, n1, ⟨rfl, by simp, by simp, ?_, mk1⟩, ⟨_, rfl, Or.inl ⟨rfl, zero_eq, by omega, by omega⟩⟩, ?_, by omega, by omega, Or.inr (Or.inr ⟨by rw [ByteArray.toList_eq]; rfl, by rw [ByteArray.toList_eq]; rfl, rfl⟩)⟩
    · unfold getT presT; rw [if_pos rfl]; simp only; rw [if_pos hge]
    · exact at1 ⟨okX0, by simp, by simp, by simp, by simp, by simp, by simp⟩
    · exact at1 (by obtain ⟨j, hj, e⟩ := h0x; exact ⟨j, hj, e, by simp, by simp, by simp, by simp, by simp, by simp⟩)
  · refine ⟨[(0, 0, 0, 1), (0, 0, 0, 1)], 8, true, ?_, n2, ⟨rfl, by simp, by simp, ?_, mk2⟩, ⟨_, rfl, Or.inl ⟨rfl, zero_eq, by omega, by omega⟩⟩, ?_, by omega, by omega, Or.inr (Or.inr ⟨by rw [ByteArray.toList_eq]; rfl, by rw [ByteArray.toList_eq]; rfl, rfl⟩)⟩
    · unfold getT presT; rw [if_neg (by decide), if_pos rfl]; simp only; rw [if_pos hge]
    · exact at2 ⟨okX0, by simp, by simp, by simp, by simp, by simp, by simp⟩ ⟨okX0, by simp, by simp, by simp, by simp, by simp, by simp⟩
    · exact at2 (by obtain ⟨j, hj, e⟩ := h0x; exact ⟨j, hj, e, by simp, by simp, by simp, by simp, by simp, by simp⟩) (by obtain ⟨j, hj, e⟩ := h0x; exact ⟨j, hj, e, by simp, by simp, by simp, by simp, by simp, by simp⟩)
  · refine ⟨[(pctX p, 1, 0, 1), (0, 0, 0, 1)], 8, true, ?_, n3, ⟨rfl, by simp, by simp, ?_, mk2⟩, ⟨_, rfl, Or.inl ⟨rfl, zero_eq, by omega, by omega⟩⟩, ?_, by omega, by omega, Or.inr (Or.inr ⟨by rw [ByteArray.toList_eq]; rfl, by rw [ByteArray.toList_eq]; rfl, rfl⟩)⟩
    · unfold getT presT; rw [if_neg (by decide), if_neg (by decide), if_pos rfl]; simp only; rw [if_pos hge]
    · exact at2 ⟨hok, by simp, by simp, by simp, by simp, by simp, by simp⟩ ⟨okX0, by simp, by simp, by simp, by simp, by simp, by simp⟩
    · exact at2 (by obtain ⟨j, hj, e⟩ := hpx; exact ⟨j, hj, e, by simp, by simp, by simp, by simp, by simp, by simp⟩) (by obtain ⟨j, hj, e⟩ := h0x; exact ⟨j, hj, e, by simp, by simp, by simp, by simp, by simp, by simp⟩)
  · refine ⟨[(pctX p, 0, 1, 0)], 0, false, ?_, n4, ⟨rfl, by simp, by simp, ?_, mk1⟩, ⟨_, rfl, Or.inr ⟨rfl, hgt, rfl⟩⟩, ?_, by omega, by omega, Or.inl ⟨by rw [ByteArray.toList_eq]; rfl, rfl⟩⟩
    · unfold getT presT; rw [if_neg (by decide), if_neg (by decide), if_neg (by decide), if_pos rfl]; simp only; rw [if_pos hge]
    · exact at1 ⟨hok, by simp, by simp, by simp, by simp, by simp, by simp⟩
    · exact at1 (by obtain ⟨j, hj, e⟩ := hpx; exact ⟨j, hj, e, by simp, by simp, by simp, by simp, by simp, by simp⟩)
  · refine ⟨[(pctX p, 0, 1, 1), (pctX p, 0, 1, 1)], 0, false, ?_, n5, ⟨rfl, by simp, by simp, ?_, mk2⟩, ⟨_, rfl, Or.inr ⟨rfl, hgt, rfl⟩⟩, ?_, by omega, by omega, Or.inr (Or.inl ⟨by rw [ByteArray.toList_eq]; rfl, by rw [ByteArray.toList_eq]; rfl, rfl⟩)⟩
    · unfold getT presT; rw [if_neg (by decide), if_neg (by decide), if_neg (by decide), if_neg (by decide), if_pos rfl]; simp only; rw [if_pos hge]
    · exact at2 ⟨hok, by simp, by simp, by simp, by simp, by simp, by simp⟩ ⟨hok, by simp, by simp, by simp, by simp, by simp, by simp⟩
    · exact at2 (by obtain ⟨j, hj, e⟩ := hpx; exact ⟨j, hj, e, by simp, by simp, by simp, by simp, by simp, by simp⟩) (by obtain ⟨j, hj, e⟩ := hpx; exact ⟨j, hj, e, by simp, by simp, by simp, by simp, by simp, by simp⟩)
  · refine ⟨[(pctX p, 0, 1, 1), (pctX p, 0, 1, 2), (0, 0, 0, 2)], 8, true, ?_, n6, ⟨rfl, by simp, by simp, ?_, mk3⟩, ⟨_, rfl, Or.inl ⟨rfl, zero_eq, by omega, by omega⟩⟩, ?_, by omega, by omega, Or.inr (Or.inr ⟨by rw [ByteArray.toList_eq]; rfl, by rw [ByteArray.toList_eq]; rfl, rfl⟩)⟩
    · unfold getT presT; rw [if_neg (by decide), if_neg (by decide), if_neg (by decide), if_neg (by decide), if_neg (by decide), if_pos rfl]; simp only; rw [if_pos hge]
    · exact at3 ⟨hok, by simp, by simp, by simp, by simp, by simp, by simp⟩ ⟨hok, by simp, by simp, by simp, by simp, by simp, by simp⟩ ⟨okX0, by simp, by simp, by simp, by simp, by simp, by simp⟩
    · exact at3 (by obtain ⟨j, hj, e⟩ := hpx; exact ⟨j, hj, e, by simp, by simp, by simp, by simp, by simp, by simp⟩) (by obtain ⟨j, hj, e⟩ := hpx; exact ⟨j, hj, e, by simp, by simp, by simp, by simp, by simp, by simp⟩) (by obtain ⟨j, hj, e⟩ := h0x; exact ⟨j, hj, e, by simp, by simp, by simp, by simp, by simp, by simp⟩)
theorem blk_six {w : World} {b : Nat} {k : Nat} (h : Blk w b 9 names) (hk : k < 6) : ∃ s, w.cell? ⟨b, k, none⟩ = some (.string s) ∧ (s = sSemi ∨ s = sAppel ∨ s = sFixed ∨ s = sOlder ∨ s = sXx ∨ s = sXx100) := by
  have : k = 0 ∨ k = 1 ∨ k = 2 ∨ k = 3 ∨ k = 4 ∨ k = 5 := by omega
  rcases this with rfl | rfl | rfl | rfl | rfl | rfl
  · exact ⟨_, h.cell 0, by simp⟩
  · exact ⟨_, h.cell 1, by simp⟩
  · exact ⟨_, h.cell 2, by simp⟩
  · exact ⟨_, h.cell 3, by simp⟩
  · exact ⟨_, h.cell 4, by simp⟩
  · exact ⟨_, h.cell 5, by simp⟩
set_option maxRecDepth 100000 in
set_option maxHeartbeats 4000000 in
theorem pvalid_any (p : Int) (w : World) :
    Calls Try.prog 4 #[.int .i64 p] w fun r w' => r = .returned (.bool true) ∧ Ext w w' := by
  obtain ⟨i, hi, hi1⟩ := mod_ex p 100 (by omega)
  have Hi := Lib.hid (show p % 100 = (i : Int) from hi)
  clear hi
  go_enter Try.func4, Try.ntmps4
  go_wp2_with (first | (go_at_call 6; refine (names_any _).mono ?_; rintro e w1 ⟨rfl, rfl⟩))
  go_loopw [11] (fun j wr => ∃ k : Nat, k ≤ 6 ∧ j = .int .i64 k ∧ Ext (w.alloc (.cells names 9)) wr) (fun j _ => 6 - (intOf j).toNat)
  case atStart => exact ⟨0, by omega, rfl, Ext.refl _⟩
  case round =>
    obtain ⟨k, hk, rfl, hE⟩ := hrel
    have k1 : Blk wr w.heap.size 9 names := (Blk.new rfl).ext hE
    have hE0 : Ext w wr := Ext.trans (by (repeat (first | (with_reducible exact Ext.refl _) | assumption | (with_reducible refine Ext.alloc ?_ _) | (with_reducible refine Ext.drew ?_) | (with_reducible refine Ext.drewL ?_) | refine Ext.trans ?_ (by assumption)))) hE
    by_cases hlt : k < 6
    · have hdec : decide ((k : Int) < 6) = true := by simp; omega
      have hdec' : decide (k < 6) = true := by simp; omega
      have hkb : (k : Int) < 6 := by omega
      obtain ⟨s, c1, hsx⟩ := blk_six k1 hlt
      obtain ⟨l, full, z, hget, hs, hg, hz, hp, f0, f1, hfl⟩ := allok s hi1 hsx
      have l1 := k1.lt
      have Hg := Lib.hid hg
      have Hz := Lib.hid hz
      have Hp := Lib.hid hp
      have Hget := Lib.hid hget
      clear k1 hsx hg hz hp hget
      go_wp2_with fail
      go_at_call 8
      refine (mod_to _ _ i _ (by omega) (by omega) Hi.out).mono ?_
      rintro e w1 ⟨rfl, rfl⟩
      go_wp2_with fail
      go_at_call 9
      refine (get_is s _ _ _ _ _ _ Hget.out).mono ?_
      rintro e w2 ⟨A, c, rfl, hO, hE2⟩
      have rA := Rd.of_own hO
      clear hO
      go_wp2_with fail
      go_at_call 13
      refine (print_any _ _ _ _ _ _ _ _ (rA.ext (by (repeat (first | (with_reducible exact Ext.refl _) | assumption | (with_reducible refine Ext.alloc ?_ _) | (with_reducible refine Ext.drew ?_) | (with_reducible refine Ext.drewL ?_) | refine Ext.trans ?_ (by assumption))))) hs Hg.out Hz.out Hp.out f0 f1).mono ?_
      rintro e w3 ⟨T, rfl, hT, hE3⟩
      have k2 := blk_of_ext hE3
      have m2 := k2.cell
      have l2 := k2.lt
      have t1 : ((T.size : Int) == 0) = false := by rw [beq_eq_false_iff_ne]; omega
      have t2 : (T.size == 0) = false := by rw [beq_eq_false_iff_ne]; omega
      have hE33 : Ext w2 w3 := Ext.trans (by (repeat (first | (with_reducible exact Ext.refl _) | assumption | (with_reducible refine Ext.alloc ?_ _) | (with_reducible refine Ext.drew ?_) | (with_reducible refine Ext.drewL ?_) | refine Ext.trans ?_ (by assumption)))) hE3
      replace rA := rA.ext hE33
      clear hE3
      rcases hfl with ⟨n1, rfl⟩ | ⟨n1, n2, rfl⟩ | ⟨n1, n2, rfl⟩
      all_goals
        go_wp2_with (first | (go_at_call 14; refine (complete_any _ _ _ _ _ _ _ _ (rA.ext (by (repeat (first | (with_reducible exact Ext.refl _) | assumption | (with_reducible refine Ext.alloc ?_ _) | (with_reducible refine Ext.drew ?_) | (with_reducible refine Ext.drewL ?_) | refine Ext.trans ?_ (by assumption))))) hs Hg.out Hz.out).mono ?_; rintro e w1 ⟨rfl, hE3⟩) | (go_at_call 12; refine (awake_any _).mono ?_; rintro e w1 ⟨rfl, hE8⟩))
        go_roundw
        case rel => exact ⟨k + 1, by omega, by go_num, by (repeat (first | (with_reducible exact Ext.refl _) | assumption | (with_reducible refine Ext.alloc ?_ _) | (with_reducible refine Ext.drew ?_) | (with_reducible refine Ext.drewL ?_) | refine Ext.trans ?_ (by assumption)))⟩
        case measure => simp [intOf]; omega
    · have hdec : decide ((k : Int) < 6) = false := by simp; omega
      have hdec' : decide (k < 6) = false := by simp; omega
      go_wp2_with (first | (go_at_call 14; refine (complete_any _ _ _ _ _ _ _ _ (rA.ext (by (repeat (first | (with_reducible exact Ext.refl _) | assumption | (with_reducible refine Ext.alloc ?_ _) | (with_reducible refine Ext.drew ?_) | (with_reducible refine Ext.drewL ?_) | refine Ext.trans ?_ (by assumption))))) hs Hg.out Hz.out).mono ?_; rintro e w1 ⟨rfl, hE3⟩) | (go_at_call 12; refine (awake_any _).mono ?_; rintro e w1 ⟨rfl, hE8⟩))
      go_ret
      exact ⟨rfl, by (repeat (first | (with_reducible exact Ext.refl _) | assumption | (with_reducible refine Ext.alloc ?_ _) | (with_reducible refine Ext.drew ?_) | (with_reducible refine Ext.drewL ?_) | refine Ext.trans ?_ (by assumption)))⟩
end Go.Proofs.Ytkioemeohofpcaa
