/- What Ratio's two numbers and their quotient read as; no program. No condition. -/
import Derived.Test.YtdacclclalhbaaaA
namespace Go.Proofs.Ytdacclclalhbaaa
open Ieee

theorem near_zero : FloatKind.f64.nearest 0 = 0 := by decide
theorem read_zero : double.read 0 = .number false 0 (-1074) := by decide
theorem cut_none (n : Nat) : Toward.even.cut false n 0 = n := by
  simp [Toward.cut, Nat.shiftLeft_eq, Nat.mod_one]
theorem log2_le {a : Nat} (h : 0 < a) : 2 ^ a.log2 ≤ a := Nat.log2_self_le (by omega)
theorem lt_log2 {a : Nat} : a < 2 ^ (a.log2 + 1) := Nat.lt_log2_self
theorem log2_40 {a : Nat} (h0 : 0 < a) (h : a ≤ 1099511627776) : a.log2 ≤ 40 := by
  have h1 := log2_le h0
  rcases Nat.lt_or_ge 40 a.log2 with h' | h'
  · have h3 := Nat.pow_le_pow_right (show 0 < 2 by omega) h'
    have h4 : (2 : Nat) ^ (Nat.succ 40) = 2199023255552 := by decide
    rw [h4] at h3
    omega
  · exact h'
theorem near_bounds {a : Nat} (h0 : 0 < a) (h : a ≤ 1099511627776) : 4503599627370496 ≤ a * 2 ^ (52 - a.log2) ∧ a * 2 ^ (52 - a.log2) < 9007199254740992 := by
  have h1 := log2_le h0
  have h2 := @lt_log2 a
  have h40 := log2_40 h0 h
  have e1 : 2 ^ a.log2 * 2 ^ (52 - a.log2) = 2 ^ 52 := by
    rw [← Nat.pow_add, show a.log2 + (52 - a.log2) = 52 by omega]
  have e2 : 2 ^ (a.log2 + 1) * 2 ^ (52 - a.log2) = 2 ^ 53 := by
    rw [← Nat.pow_add, show a.log2 + 1 + (52 - a.log2) = 53 by omega]
  have p := Nat.two_pow_pos (52 - a.log2)
  have l1 := Nat.mul_le_mul_right (2 ^ (52 - a.log2)) h1
  have l2 := Nat.mul_lt_mul_of_pos_right h2 p
  rw [e1] at l1
  rw [e2] at l2
  exact ⟨l1, l2⟩
theorem word_false (f : Format) (r : Nat) : f.word false r = r := by unfold Format.word; exact if_neg Bool.false_ne_true
theorem near_word {a : Nat} (h0 : 0 < a) (h : a ≤ 1099511627776) :
    FloatKind.f64.nearest (a : Int) = (a.log2 + 1022) * 4503599627370496 + a * 2 ^ (52 - a.log2) := by
  obtain ⟨l1, l2⟩ := near_bounds h0 h
  have h40 := log2_40 h0 h
  have hneg : decide ((a : Int) < 0) = false := by simp
  have hb : double.binade = 4503599627370496 := by decide
  have hi : double.infRung = 9218868437227405312 := by decide
  have hf : double.fractionBits = 52 := by decide
  have e0 : FloatKind.f64.nearest (a : Int) = double.nearest (decide ((a : Int) < 0)) (a : Int).natAbs 0 := rfl
  rw [e0, hneg, Int.natAbs_natCast]
  unfold Format.nearest
  rw [if_neg (by omega)]
  simp only [lp, hb, hi, hf]
  have em : max (0 + (a.log2 : Int) - (52 : Nat)) (-1074) = (a.log2 : Int) - 52 := by omega
  rw [em]
  have ea : (0 - ((a.log2 : Int) - 52)).toNat = 52 - a.log2 := by omega
  have eb : ((a.log2 : Int) - 52 - 0).toNat = 0 := by omega
  have ec : ((a.log2 : Int) - 52 - -1074).toNat = a.log2 + 1022 := by omega
  rw [ea, eb, ec, cut_none, Nat.shiftLeft_eq]
  rw [word_false]
  generalize a * 2 ^ (52 - a.log2) = m at *
  generalize a.log2 = q at *
  refine Nat.min_eq_left ?_
  clear em ea eb ec e0 hneg hb hi hf h0 h
  omega
theorem near_read {a : Nat} (h0 : 0 < a) (h : a ≤ 1099511627776) :
    double.read (FloatKind.f64.nearest (a : Int)) = .number false (a * 2 ^ (52 - a.log2)) ((a.log2 : Int) - 52) := by
  obtain ⟨l1, l2⟩ := near_bounds h0 h
  have h40 := log2_40 h0 h
  rw [near_word h0 h]
  generalize a * 2 ^ (52 - a.log2) = m at *
  generalize a.log2 = q at *
  have hs : double.signWeight = 9223372036854775808 := by decide
  have hb : double.binade = 4503599627370496 := by decide
  have hi : double.infRung = 9218868437227405312 := by decide
  have e1 : ((q + 1022) * 4503599627370496 + m) % 9223372036854775808 = (q + 1022) * 4503599627370496 + m := by omega
  have e2 : (((q + 1022) * 4503599627370496 + m) / 9223372036854775808 % 2 == 1) = false := by
    have : ((q + 1022) * 4503599627370496 + m) / 9223372036854775808 = 0 := by omega
    rw [this]; decide
  unfold Format.read
  simp only [hs, hb, hi, lp, e1, e2]
  rw [if_neg (by omega), if_pos (by omega)]
  have e3 : 4503599627370496 + ((q + 1022) * 4503599627370496 + m) % 4503599627370496 = m := by omega
  have e4 : (-1074 : Int) + (((q + 1022) * 4503599627370496 + m) / 4503599627370496 - 1 : Nat) = (q : Int) - 52 := by omega
  rw [e3, e4]

theorem nearest_le (m : Nat) (p : Int) : double.nearest false m p ≤ infW := by
  have hi : double.infRung = 9218868437227405312 := by decide
  unfold Format.nearest Format.word
  rw [hi]
  split
  · simp
  · simp only [Bool.false_eq_true, if_false]
    exact Nat.min_le_right _ _
theorem word_inf : double.word false double.infRung = infW := by decide

/-- the quotient of two counts: nothing of 0 and 0, else a word up to infinity -/
theorem quo_cases (a b : Nat) (ha : a ≤ 1099511627776) (hb : b ≤ 1099511627776) :
    (double.div (FloatKind.f64.nearest (a : Int)) (FloatKind.f64.nearest (b : Int)) = none ∧ quoW a b = infW + 1) ∨
    (∃ r, double.div (FloatKind.f64.nearest (a : Int)) (FloatKind.f64.nearest (b : Int)) = some r ∧ quoW a b = r ∧ r ≤ infW) := by
  have key : double.div (FloatKind.f64.nearest (a : Int)) (FloatKind.f64.nearest (b : Int)) = none ∨ ∃ r, double.div (FloatKind.f64.nearest (a : Int)) (FloatKind.f64.nearest (b : Int)) = some r ∧ r ≤ infW := by
    have ra : ∃ m p, double.read (FloatKind.f64.nearest (a : Int)) = .number false m p := by
      rcases Nat.eq_zero_or_pos a with h | h
      · subst h; exact ⟨0, -1074, by rw [show ((0 : Nat) : Int) = 0 from rfl, near_zero, read_zero]⟩
      · exact ⟨_, _, near_read h ha⟩
    have rb : ∃ m p, double.read (FloatKind.f64.nearest (b : Int)) = .number false m p := by
      rcases Nat.eq_zero_or_pos b with h | h
      · subst h; exact ⟨0, -1074, by rw [show ((0 : Nat) : Int) = 0 from rfl, near_zero, read_zero]⟩
      · exact ⟨_, _, near_read h hb⟩
    obtain ⟨m, p, e1⟩ := ra
    obtain ⟨n, q, e2⟩ := rb
    unfold Format.div
    rw [e1, e2]
    simp only [Datum.quotient]
    split
    · split
      · exact .inl rfl
      · refine .inr ⟨_, rfl, ?_⟩
        show double.word (false ^^ false) double.infRung ≤ infW
        rw [show (false ^^ false) = false from rfl, word_inf]
        exact Nat.le_refl _
    · refine .inr ⟨_, rfl, ?_⟩
      exact nearest_le _ _
  unfold quoW
  rcases key with h | ⟨r, h, hr⟩
  · exact .inl ⟨h, by rw [h]⟩
  · exact .inr ⟨r, h, by rw [h], hr⟩
theorem half : quoW 1 2 = 4602678819172646912 := by decide +kernel
theorem none_ : quoW 0 0 = infW + 1 := by decide +kernel
end Go.Proofs.Ytdacclclalhbaaa
