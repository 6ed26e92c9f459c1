/- The walks of Digits, ToPercent, Named, Valid. Conditions: the ranges that each theorem states. -/
import Derived.Test.YtkioemeohofpcaaF
import Derived.Laws.BytesArg
namespace Go.Proofs.Ytkioemeohofpcaa
open Go.RowKit Go.Draw

theorem pct_up_all : (List.range 100).all (fun k => decide (pctX (k : Int) < pctX ((k + 1 : Nat) : Int))) = true := by decide +kernel
theorem pct_up {k : Nat} (h : k < 100) : pctX (k : Int) < pctX ((k + 1 : Nat) : Int) := by
  have h1 := pct_up_all
  simp only [List.all_eq_true, List.mem_range, decide_eq_true_eq] at h1
  exact h1 k h
theorem pct_lt {i : Nat} : ∀ d, i + d + 1 ≤ 100 → pctX (i : Int) < pctX ((i + d + 1 : Nat) : Int)
  | 0, h => pct_up (by omega)
  | d + 1, h => Nat.lt_trans (pct_lt d (by omega)) (pct_up (k := i + d + 1) (by omega))
theorem pct_ne {i j : Nat} (h : i < j) (hj : j ≤ 100) : pctX (i : Int) < pctX (j : Int) := by
  have := pct_lt (i := i) (j - i - 1) (by omega)
  rwa [show i + (j - i - 1) + 1 = j by omega] at this
def okX (x : Nat) : Bool := x == 0 || (Ieee.double.order x 0 == some .gt && (Ieee.double.order x 4607182418800017408 == some .lt || Ieee.double.order x 4607182418800017408 == some .eq))
theorem pct_ok_all : (List.range 101).all (fun k => okX (pctX (k : Int))) = true := by decide +kernel
theorem pct_ok {k : Nat} (h : k ≤ 100) : okX (pctX (k : Int)) = true := by
  have h1 := pct_ok_all
  simp only [List.all_eq_true, List.mem_range] at h1
  exact h1 k (by omega)

theorem dig1 (n : Int) (w : World) (h0 : 0 ≤ n) (h1 : n < 10) : Calls Try.prog 20 #[.int .i64 n] w fun e w' => e = .returned (.string ⟨#[UInt8.ofNat (48 + n).toNat]⟩) ∧ Ext w w' := by
  have hcv : (convert 59 9 (.slice (some ⟨w.heap.size, 0, none⟩) 1 1)).run Try.prog (w.alloc (.cells #[.int .u8 (48 + n)] 5)) = .ok (.string ⟨#[UInt8.ofNat (48 + n).toNat]⟩) (w.alloc (.cells #[.int .u8 (48 + n)] 5)) :=
    run_convert_bytes_arg _ 59 5 rfl rfl w.heap.size 0 1 1 [48 + n] rfl (fun i hi => by
      have : i = 0 := by omega
      subst this; simp) 9 rfl
  have d1 : decide (n < 10) = true := by simp; omega
  have hw : IntKind.u8.wrap (48 + n) = 48 + n := by simp [IntKind.wrap, IntKind.bits]; omega
  go_enter Try.func20, Try.ntmps20
  go_wp2
  go_ret
  exact ⟨rfl, by (repeat (first | (with_reducible exact Ext.refl _) | assumption | (with_reducible refine Ext.alloc ?_ _) | (with_reducible refine Ext.drew ?_) | (with_reducible refine Ext.drewL ?_) | refine Ext.trans ?_ (by assumption)))⟩
def DigR (m : Nat) (w : World) (e : Ending) (w' : World) : Prop := ∃ s : ByteArray, e = .returned (.string s) ∧ (1 ≤ s.size ∧ s.size ≤ m) ∧ Ext w w'
theorem dig1s (n : Int) (w : World) (h0 : 0 ≤ n) (h1 : n < 10) : Calls Try.prog 20 #[.int .i64 n] w (DigR 1 w) :=
  (dig1 n w h0 h1).mono fun e w' ⟨he, hE⟩ => ⟨_, he, ⟨by simp [ByteArray.size], by simp [ByteArray.size]⟩, hE⟩
theorem dig2s (n : Int) (w : World) (h0 : 0 ≤ n) (h1 : n < 100) : Calls Try.prog 20 #[.int .i64 n] w (DigR 2 w) := by
  by_cases h : n < 10
  · exact (dig1s n w h0 h).mono fun e w' ⟨s, he, hs, hE⟩ => ⟨s, he, ⟨hs.1, by omega⟩, hE⟩
  have d1 : decide (n < 10) = false := by simpa using h
  have hadd : ∀ (a b : ByteArray) (W : World), a.size ≤ 1 → b.size ≤ 1 → (Op.stringOp .add a b).run Try.prog W = .ok (.string (a ++ b)) W := fun a b W ha hb => run_string_add_sum _ a b (by omega)
  have e1 : n.tdiv 10 = n / 10 := Int.tdiv_eq_ediv_of_nonneg h0
  have e2 : n.tmod 10 = n % 10 := Int.tmod_eq_emod_of_nonneg h0
  go_enter Try.func20, Try.ntmps20
  go_wp2_with (first | (go_at_call 20; refine (dig1s _ _ (by omega) (by omega)).mono ?_; rintro e w1 ⟨s1, rfl, hs1, hE1⟩))
  go_ret
  exact ⟨_, rfl, ⟨by simp [ByteArray.size_append]; omega, by simp [ByteArray.size_append]; omega⟩, by (repeat (first | (with_reducible exact Ext.refl _) | assumption | (with_reducible refine Ext.alloc ?_ _) | (with_reducible refine Ext.drew ?_) | (with_reducible refine Ext.drewL ?_) | refine Ext.trans ?_ (by assumption)))⟩
theorem dig3s (n : Int) (w : World) (h0 : 0 ≤ n) (h1 : n < 1000) : Calls Try.prog 20 #[.int .i64 n] w (DigR 4 w) := by
  by_cases h : n < 10
  · exact (dig1s n w h0 h).mono fun e w' ⟨s, he, hs, hE⟩ => ⟨s, he, ⟨hs.1, by omega⟩, hE⟩
  have d1 : decide (n < 10) = false := by simpa using h
  have hadd : ∀ (a b : ByteArray) (W : World), a.size ≤ 2 → b.size ≤ 2 → (Op.stringOp .add a b).run Try.prog W = .ok (.string (a ++ b)) W := fun a b W ha hb => run_string_add_sum _ a b (by omega)
  have e1 : n.tdiv 10 = n / 10 := Int.tdiv_eq_ediv_of_nonneg h0
  have e2 : n.tmod 10 = n % 10 := Int.tmod_eq_emod_of_nonneg h0
  go_enter Try.func20, Try.ntmps20
  go_wp2_with (first | (go_at_call 20; refine (dig2s _ _ (by omega) (by omega)).mono ?_; rintro e w1 ⟨s1, rfl, hs1, hE1⟩))
  go_ret
  exact ⟨_, rfl, ⟨by simp [ByteArray.size_append]; omega, by simp [ByteArray.size_append]; omega⟩, by (repeat (first | (with_reducible exact Ext.refl _) | assumption | (with_reducible refine Ext.alloc ?_ _) | (with_reducible refine Ext.drew ?_) | (with_reducible refine Ext.drewL ?_) | refine Ext.trans ?_ (by assumption)))⟩
theorem valid_any (x : Nat) (w : World) (h : okX x = true) : Calls Try.prog 29 #[.float .f64 x] w fun e w' => e = .returned (.bool true) ∧ w' = w := by
  have hbits := fun y W => bits_run y W
  unfold okX at h
  by_cases hx : x = 0
  · subst hx
    go_enter Try.func29, Try.ntmps29
    go_wp2
    go_ret
    exact ⟨rfl, rfl⟩
  have b0 : (x == 0) = false := by simpa using hx
  simp only [b0, Bool.false_or, Bool.and_eq_true, Bool.or_eq_true, beq_iff_eq] at h
  obtain ⟨g1, g2⟩ := h
  have g1 : FloatKind.f64.format.order x 0 = some .gt := g1
  rcases g2 with g2 | g2
  · have g2 : FloatKind.f64.format.order x 4607182418800017408 = some .lt := g2
    go_enter Try.func29, Try.ntmps29
    go_wp2
    go_ret
    exact ⟨rfl, rfl⟩
  · have g2 : FloatKind.f64.format.order x 4607182418800017408 = some .eq := g2
    go_enter Try.func29, Try.ntmps29
    go_wp2
    go_ret
    exact ⟨rfl, rfl⟩
set_option maxHeartbeats 1000000 in
theorem topct_any (i : Nat) (w : World) (hi : i ≤ 100) : Calls Try.prog 21 #[.float .f64 (pctX (i : Int))] w fun e w' => e = .returned (.tuple #[.int .i64 i, .bool true]) ∧ w' = w := by
  have hbits := fun y W => bits_run y W
  go_enter Try.func21, Try.ntmps21
  go_wp2_with fail
  go_loopw [4] (fun j wr => ∃ k : Nat, k ≤ i ∧ j = .int .i64 k ∧ wr = w) (fun j _ => i - (intOf j).toNat)
  case atStart => exact ⟨0, by omega, rfl, rfl⟩
  case round =>
    obtain ⟨k, hk, rfl, rfl⟩ := hrel
    have d1 : decide ((k : Int) ≤ 100) = true := by simp; omega
    have d2 : decide (k ≤ 100) = true := by simp; omega
    by_cases he : k = i
    · subst he
      go_wp2_with (first | (go_at_call 17; refine (rpercent_any _ _).mono ?_; rintro e w1 ⟨rfl, rfl⟩))
      exact bodyPost_ret (v := .tuple #[.int .i64 k, .bool true]) (by simp [results, Try.results21, go_sem]) rfl ⟨rfl, rfl⟩
    · have hne : (pctX (i : Int) == pctX (k : Int)) = false := by
        have := pct_ne (i := k) (j := i) (by omega) hi
        simp; omega
      go_wp2_with (first | (go_at_call 17; refine (rpercent_any _ _).mono ?_; rintro e w1 ⟨rfl, rfl⟩))
      go_roundw
      case rel => exact ⟨k + 1, by omega, by go_num, by trivial⟩
      case measure => simp [intOf]; omega
def okC (k : Nat) (b : UInt8) : Bool := (decide (97 ≤ b.toNat) && decide (b.toNat ≤ 122)) || (k != 0 && (b.toNat == 45 || (decide (48 ≤ b.toNat) && decide (b.toNat ≤ 57))))
def okName (s : ByteArray) : Prop := 1 ≤ s.size ∧ s.size ≤ 16 ∧ ∀ k (h : k < s.size), okC k s[k] = true
set_option maxHeartbeats 1000000 in
theorem named_any (s : ByteArray) (w : World) (h : okName s) : Calls Try.prog 28 #[.string s] w fun e w' => e = .returned (.bool true) ∧ w' = w := by
  obtain ⟨h1, h2, h3⟩ := h
  have c1 : decide (1 ≤ s.size) = true := by simpa using h1
  have c2 : decide (s.size ≤ 16) = true := by simpa using h2
  have c3 : decide ((1 : Int) ≤ s.size) = true := by simp; omega
  have c4 : decide ((s.size : Int) ≤ 16) = true := by simp; omega
  go_enter Try.func28, Try.ntmps28
  go_wp2_with fail
  go_loopw [3] (fun j wr => ∃ k : Nat, k ≤ s.size ∧ j = .int .i64 k ∧ wr = w) (fun j _ => s.size - (intOf j).toNat)
  case atStart => exact ⟨0, by omega, rfl, rfl⟩
  case round =>
    obtain ⟨k, hk, rfl, rfl⟩ := hrel
    by_cases hlt : k < s.size
    · have d1 : decide ((k : Int) < s.size) = true := by simp; omega
      have d2 : decide (k < s.size) = true := by simpa using hlt
      have hkI : (k : Int) < s.size := by omega
      have hi : ∀ W, (Instr.index 9 (.string s) (.int .i64 k)).run Try.prog W = .ok (.int .u8 (s[k].toNat : Int)) W := fun W => by
        rw [run_index_string W 9 s .i64 k rfl, dif_pos ⟨by omega, hkI⟩]
        rfl
      have hc := h3 k hlt
      unfold okC at hc
      generalize s[k].toNat = b at *
      simp only [Bool.or_eq_true, Bool.and_eq_true, decide_eq_true_eq, bne_iff_ne, ne_eq, beq_iff_eq] at hc
      rcases hc with ⟨g1, g2⟩ | ⟨g0, g1⟩
      · have f1 : decide ((97 : Int) ≤ b) = true := by simp; omega
        have f2 : decide ((b : Int) ≤ 122) = true := by simp; omega
        have f3 : decide (97 ≤ b) = true := by simp; omega
        have f4 : decide (b ≤ 122) = true := by simp; omega
        go_wp2
        go_roundw
        case rel => exact ⟨k + 1, by omega, by go_num, by trivial⟩
        case measure => simp [intOf]; omega
      · have f1 : decide ((97 : Int) ≤ b) = false := by simp; omega
        have f3 : decide (97 ≤ b) = false := by simp; omega
        have f0 : ((k : Int) == 0) = false := by simp; omega
        have f5 : (k == 0) = false := by simp; omega
        by_cases g45 : b = 45
        · subst g45
          go_wp2
          go_roundw
          case rel => exact ⟨k + 1, by omega, by go_num, by trivial⟩
          case measure => simp [intOf]; omega
        · have f6 : ((b : Int) != 45) = true := by simp; omega
          have f7 : (b != 45) = true := by simp; omega
          have f8 : decide ((b : Int) < 48) = false := by simp; omega
          have f9 : decide (b < 48) = false := by simp; omega
          have e8 : decide ((57 : Int) < b) = false := by simp; omega
          have e9 : decide (57 < b) = false := by simp; omega
          go_wp2
          go_roundw
          case rel => exact ⟨k + 1, by omega, by go_num, by trivial⟩
          case measure => simp [intOf]; omega
    · have d1 : decide ((k : Int) < s.size) = false := by simp; omega
      have d2 : decide (k < s.size) = false := by simpa using hlt
      go_wp2
      go_ret
      exact ⟨rfl, rfl⟩
theorem named_six : okName sSemi ∧ okName sAppel ∧ okName sFixed ∧ okName sOlder ∧ okName sXx ∧ okName sXx100 := by
  refine ⟨⟨by decide, by decide, ?_⟩, ⟨by decide, by decide, ?_⟩, ⟨by decide, by decide, ?_⟩, ⟨by decide, by decide, ?_⟩, ⟨by decide, by decide, ?_⟩, ⟨by decide, by decide, ?_⟩⟩ <;> decide
end Go.Proofs.Ytkioemeohofpcaa
