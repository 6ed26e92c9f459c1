/- How quotients of counts are rounded: in order; no program. No condition. -/
import Derived.Test.YtdacclclalhbaaaB
namespace Go.Proofs.Ytdacclclalhbaaa
open Ieee

theorem V_at {q m : Nat} (h : 4503599627370496 ≤ m) (h2 : m ≤ 9007199254740992) : V (q * 4503599627370496 + m) = m * 2 ^ q := by
  unfold V
  rw [if_neg (by omega)]
  by_cases e : m = 9007199254740992
  · have e1 : (q * 4503599627370496 + m) % 4503599627370496 = 0 := by omega
    have e2 : (q * 4503599627370496 + m) / 4503599627370496 - 1 = q + 1 := by omega
    rw [e1, e2, Nat.pow_succ, Nat.add_zero, Nat.mul_comm (2 ^ q) 2, ← Nat.mul_assoc, e]
  · have e1 : (q * 4503599627370496 + m) % 4503599627370496 = m - 4503599627370496 := by omega
    have e2 : (q * 4503599627370496 + m) / 4503599627370496 - 1 = q := by omega
    rw [e1, e2, show 4503599627370496 + (m - 4503599627370496) = m by omega]
theorem V_small {m : Nat} (h : m < 4503599627370496) : V m = m := by unfold V; rw [if_pos h]

/-- the rung before it is cut off at infinity -/
def rungOf (mag k : Nat) : Nat := (k + mag.log2 - 52) * 4503599627370496 + Toward.even.cut false (mag <<< (k - (k + mag.log2 - 52))) ((k + mag.log2 - 52) - k)
theorem nearest_eq {mag k : Nat} (h : mag ≠ 0) : double.nearest false mag (-1074 + (k : Int)) = min (rungOf mag k) infW := by
  have hb : double.binade = 4503599627370496 := by decide
  have hi : double.infRung = 9218868437227405312 := by decide
  have hf : double.fractionBits = 52 := by decide
  unfold Format.nearest rungOf
  rw [if_neg h, word_false]
  simp only [lp, hb, hi, hf]
  generalize mag.log2 = L
  have e1 : (max (-1074 + (k : Int) + (L : Int) - (52 : Nat)) (-1074) - -1074).toNat = k + L - 52 := by omega
  have e2 : (-1074 + (k : Int) - max (-1074 + (k : Int) + (L : Int) - (52 : Nat)) (-1074)).toNat = k - (k + L - 52) := by omega
  have e3 : (max (-1074 + (k : Int) + (L : Int) - (52 : Nat)) (-1074) - (-1074 + (k : Int))).toNat = k + L - 52 - k := by omega
  rw [e1, e2, e3]
/-- what 'even' keeps -/
theorem cut_pos {n d : Nat} (hd : d ≤ n.log2 + 2) : Toward.even.cut false n d = n / 2 ^ d + (decide (2 ^ d < 2 * (n % 2 ^ d)) || (2 ^ d == 2 * (n % 2 ^ d) && n / 2 ^ d % 2 == 1)).toNat := by
  simp only [Toward.cut, Nat.shiftLeft_eq, Nat.one_mul, Nat.min_eq_left hd]

theorem pow2_log {n : Nat} (h : n ≠ 0) : 2 ^ n.log2 ≤ n ∧ n < 2 ^ (n.log2 + 1) := ⟨Nat.log2_self_le h, Nat.lt_log2_self⟩

/-- the two laws of rounding: no word that is at least the number lies below, no word that is at most the number lies above -/
theorem rung_laws {mag k : Nat} (h : mag ≠ 0) : (∀ y, mag * 2 ^ k ≤ V y → rungOf mag k ≤ y) ∧ (∀ y, V y ≤ mag * 2 ^ k → y ≤ rungOf mag k) := by
  obtain ⟨l1, l2⟩ := pow2_log h
  unfold rungOf
  generalize hL : mag.log2 = L at *
  by_cases hq : k + L - 52 ≤ k
  · -- nothing is dropped
    have e0 : k + L - 52 - k = 0 := by omega
    rw [e0, cut_none, Nat.shiftLeft_eq]
    have hV : V ((k + L - 52) * 4503599627370496 + mag * 2 ^ (k - (k + L - 52))) = mag * 2 ^ k := by
      have lt53 : mag * 2 ^ (k - (k + L - 52)) < 9007199254740992 := by
        have h1 : mag * 2 ^ (k - (k + L - 52)) < 2 ^ (L + 1) * 2 ^ (k - (k + L - 52)) := Nat.mul_lt_mul_of_pos_right l2 (Nat.two_pow_pos _)
        rw [← Nat.pow_add] at h1
        have h2 : 2 ^ (L + 1 + (k - (k + L - 52))) ≤ 2 ^ 53 := Nat.pow_le_pow_right (by omega) (by omega)
        have h3 : (2 : Nat) ^ 53 = 9007199254740992 := by decide
        omega
      by_cases hz : k + L < 52
      · have e1 : k + L - 52 = 0 := by omega
        have h1 : mag * 2 ^ k < 2 ^ (L + 1) * 2 ^ k := Nat.mul_lt_mul_of_pos_right l2 (Nat.two_pow_pos _)
        rw [← Nat.pow_add] at h1
        have h2 : 2 ^ (L + 1 + k) ≤ 2 ^ 52 := Nat.pow_le_pow_right (by omega) (by omega)
        have h3 : (2 : Nat) ^ 52 = 4503599627370496 := by decide
        rw [e1, Nat.zero_mul, Nat.zero_add, Nat.sub_zero, V_small (by omega)]
      · have ge52 : 4503599627370496 ≤ mag * 2 ^ (k - (k + L - 52)) := by
          have h1 : 2 ^ L * 2 ^ (k - (k + L - 52)) ≤ mag * 2 ^ (k - (k + L - 52)) := Nat.mul_le_mul_right _ l1
          rw [← Nat.pow_add] at h1
          have h2 : 2 ^ 52 ≤ 2 ^ (L + (k - (k + L - 52))) := Nat.pow_le_pow_right (by omega) (by omega)
          have h3 : (2 : Nat) ^ 52 = 4503599627370496 := by decide
          omega
        rw [V_at ge52 (by omega), Nat.mul_assoc, ← Nat.pow_add]
        congr 2
        omega
    exact ⟨fun y hy => le_of_V (by rw [hV]; exact hy), fun y hy => le_of_V (by rw [hV]; exact hy)⟩
  · have hd : k + L - 52 - k ≤ mag.log2 + 2 := by omega
    have e1 : k - (k + L - 52) = 0 := by omega
    rw [e1, Nat.shiftLeft_eq, Nat.pow_zero, Nat.mul_one, cut_pos hd]
    have e2 : k + L - 52 - k = L - 52 := by omega
    rw [e2]
    have e3 : k + L - 52 = k + (L - 52) := by omega
    rw [e3]
    -- g: the gap
    have hg := Nat.two_pow_pos (L - 52)
    have hlow : 4503599627370496 ≤ mag / 2 ^ (L - 52) ∧ mag / 2 ^ (L - 52) < 9007199254740992 := by
      have h3 : (2 : Nat) ^ 52 = 4503599627370496 := by decide
      have h4 : (2 : Nat) ^ 53 = 9007199254740992 := by decide
      constructor
      · rw [Nat.le_div_iff_mul_le hg, ← h3, ← Nat.pow_add, show 52 + (L - 52) = L by omega]; exact l1
      · rw [Nat.div_lt_iff_lt_mul hg, ← h4, ← Nat.pow_add, show 53 + (L - 52) = L + 1 by omega]; exact l2
    have hdm := Nat.div_add_mod mag (2 ^ (L - 52))
    have hmod := Nat.mod_lt mag hg
    have hpow : 2 ^ (k + (L - 52)) = 2 ^ (L - 52) * 2 ^ k := by rw [Nat.add_comm, Nat.pow_add]
    generalize 2 ^ (L - 52) = g at *
    generalize mag / g = low at *
    generalize mag % g = rest at *
    generalize k + (L - 52) = q at *
    have pk := Nat.two_pow_pos k
    generalize 2 ^ k = P at *
    -- the value between two neighbours
    have hX1 : low * (g * P) ≤ mag * P := by rw [← Nat.mul_assoc]; exact Nat.mul_le_mul_right _ (by rw [Nat.mul_comm]; omega)
    have hX2 : mag * P < (low + 1) * (g * P) := by
      rw [← Nat.mul_assoc]
      refine Nat.mul_lt_mul_of_pos_right ?_ pk
      rw [Nat.add_mul, Nat.mul_comm low g]; omega
    have hX3 : 0 < rest → low * (g * P) < mag * P := fun hr => by
      rw [← Nat.mul_assoc]
      refine Nat.mul_lt_mul_of_pos_right ?_ pk
      rw [Nat.mul_comm]; omega
    have v0 : V (q * 4503599627370496 + low) = low * (g * P) := by rw [V_at hlow.1 (by omega), hpow]
    have v1 : V (q * 4503599627370496 + (low + 1)) = (low + 1) * (g * P) := by rw [V_at (by omega) (by omega), hpow]
    cases hup : (decide (g < 2 * rest) || (g == 2 * rest && low % 2 == 1)) with
    | false =>
      simp only [Bool.toNat_false, Nat.add_zero]
      refine ⟨fun y hy => le_of_V (by rw [v0]; omega), fun y hy => ?_⟩
      have : y < q * 4503599627370496 + (low + 1) := lt_of_V (by rw [v1]; omega)
      omega
    | true =>
      have hr : 0 < rest := by
        simp only [Bool.or_eq_true, decide_eq_true_eq, Bool.and_eq_true, beq_iff_eq] at hup
        omega
      have := hX3 hr
      simp only [Bool.toNat_true]
      refine ⟨fun y hy => ?_, fun y hy => le_of_V (by rw [v1]; omega)⟩
      have : q * 4503599627370496 + low < y := lt_of_V (by rw [v0]; omega)
      omega

theorem nearest_up {mag k y : Nat} (h : mag * 2 ^ k ≤ V y) : double.nearest false mag (-1074 + (k : Int)) ≤ y := by
  by_cases h0 : mag = 0
  · subst h0
    unfold Format.nearest
    rw [if_pos rfl, word_false]
    exact Nat.zero_le _
  · rw [nearest_eq h0]
    exact Nat.le_trans (Nat.min_le_left _ _) ((rung_laws h0).1 y h)
theorem nearest_down {mag k y : Nat} (hy : y ≤ infW) (h : V y ≤ mag * 2 ^ k) : y ≤ double.nearest false mag (-1074 + (k : Int)) := by
  by_cases h0 : mag = 0
  · subst h0
    rw [Nat.zero_mul] at h
    have : y ≤ 0 := le_of_V (by rw [V_small (m := 0) (by omega)]; exact h)
    omega
  · rw [nearest_eq h0]
    exact Nat.le_min.2 ⟨(rung_laws h0).2 y h, hy⟩
end Go.Proofs.Ytdacclclalhbaaa
