/- Quotients of counts are in order; no program. No condition. -/
import Derived.Test.YtdacclclalhbaaaI
namespace Go.Proofs.Ytdacclclalhbaaa
open Ieee

/-- r is the word nearest to num / den of the format's least units -/
structure RN (r num den : Nat) : Prop where
  up : 2 * num ≤ (V r + V (r + 1)) * den
  upE : 2 * num = (V r + V (r + 1)) * den → r % 2 = 0
  lo : ∀ p, r = p + 1 → (V p + V r) * den ≤ 2 * num
  loE : ∀ p, r = p + 1 → (V p + V r) * den = 2 * num → r % 2 = 0

theorem RN.mono {r1 n1 d1 r2 n2 d2 : Nat} (h1 : RN r1 n1 d1) (h2 : RN r2 n2 d2) (p1 : 0 < d1) (p2 : 0 < d2) (h : n1 * d2 ≤ n2 * d1) : r1 ≤ r2 := by
  rcases Nat.lt_or_ge r2 r1 with hlt | hge
  · exfalso
    obtain ⟨p, rfl⟩ : ∃ p, r1 = p + 1 := ⟨r1 - 1, by omega⟩
    have a1 := h1.lo p rfl
    have a2 := h2.up
    have m1 : V r2 ≤ V p := V_le (by omega)
    have m2 : V (r2 + 1) ≤ V (p + 1) := V_le (by omega)
    -- 2 n2 d1 ≤ M d2 d1 ≤ M' d1 d2 ≤ 2 n1 d2
    have b1 := Nat.mul_le_mul_right d1 a2
    have b2 := Nat.mul_le_mul_right d2 a1
    have b3 : (V r2 + V (r2 + 1)) * d2 * d1 ≤ (V p + V (p + 1)) * d1 * d2 := by
      rw [Nat.mul_assoc, Nat.mul_assoc, Nat.mul_comm d2 d1]
      exact Nat.mul_le_mul_right _ (by omega)
    have c1 : 2 * n2 * d1 = 2 * (n2 * d1) := Nat.mul_assoc _ _ _
    have c2 : 2 * n1 * d2 = 2 * (n1 * d2) := Nat.mul_assoc _ _ _
    rw [c1] at b1
    rw [c2] at b2
    have e1 : (V r2 + V (r2 + 1)) * d2 * d1 = 2 * (n2 * d1) := by omega
    have e2 : (V p + V (p + 1)) * d1 * d2 = 2 * (n1 * d2) := by omega
    have e3 : (V r2 + V (r2 + 1)) * d2 * d1 = (V p + V (p + 1)) * d1 * d2 := by omega
    have f1 : 2 * n2 = (V r2 + V (r2 + 1)) * d2 := Nat.eq_of_mul_eq_mul_right p1 (by rw [c1, e1])
    have f2 : (V p + V (p + 1)) * d1 = 2 * n1 := Nat.eq_of_mul_eq_mul_right p2 (by rw [c2, e2])
    have g1 := h2.upE f1
    have g2 := h1.loE p rfl f2
    have e4 : V r2 + V (r2 + 1) = V p + V (p + 1) := by
      rw [Nat.mul_assoc, Nat.mul_assoc, Nat.mul_comm d2 d1] at e3
      exact Nat.eq_of_mul_eq_mul_right (Nat.mul_pos p1 p2) e3
    have : r2 = p := by
      rcases Nat.lt_or_ge r2 p with q | q
      · have := V_lt q; omega
      · omega
    omega
  · exact hge

theorem rung_rn {D s Y n k : Nat} (hn : 0 < n) (hD : D = Y / n) (hs : s = (Y % n != 0).toNat) (hD2 : 9007199254740992 ≤ D) : RN (rungOf (2 * D + s) k) (Y * 2 ^ (k + 1)) n := by
  have hs1 : s ≤ 1 := by subst hs; cases (Y % n != 0) <;> simp
  have hmag : 2 * D + s ≠ 0 := by omega
  obtain ⟨l1, l2⟩ := pow2_log hmag
  have hL : 54 ≤ (2 * D + s).log2 := by
    rcases Nat.lt_or_ge (2 * D + s).log2 54 with h | h
    · have h1 := Nat.pow_le_pow_right (show 0 < 2 by omega) (show (2 * D + s).log2 + 1 ≤ 54 by omega)
      have h2 : (2 : Nat) ^ 54 = 18014398509481984 := by decide
      omega
    · exact h
  unfold rungOf
  generalize hLL : (2 * D + s).log2 = L at *
  have e0 : k - (k + L - 52) = 0 := by omega
  have hd : k + L - 52 - k ≤ (2 * D + s).log2 + 2 := by omega
  rw [e0, Nat.shiftLeft_eq, Nat.pow_zero, Nat.mul_one, cut_pos hd]
  have e2 : k + L - 52 - k = L - 52 := by omega
  have e3 : k + L - 52 = k + (L - 52) := by omega
  rw [e2, e3]
  have hg := Nat.two_pow_pos (L - 52)
  have hlow : 4503599627370496 ≤ (2 * D + s) / 2 ^ (L - 52) ∧ (2 * D + s) / 2 ^ (L - 52) < 9007199254740992 := by
    have h3 : (2 : Nat) ^ 52 = 4503599627370496 := by decide
    have h4 : (2 : Nat) ^ 53 = 9007199254740992 := by decide
    constructor
    · rw [Nat.le_div_iff_mul_le hg, ← h3, ← Nat.pow_add, show 52 + (L - 52) = L by omega]; exact l1
    · rw [Nat.div_lt_iff_lt_mul hg, ← h4, ← Nat.pow_add, show 53 + (L - 52) = L + 1 by omega]; exact l2
  have hdm := Nat.div_add_mod (2 * D + s) (2 ^ (L - 52))
  have hmod := Nat.mod_lt (2 * D + s) hg
  have hpow : 2 ^ (k + (L - 52)) = 2 ^ (L - 52) * 2 ^ k := by rw [Nat.add_comm, Nat.pow_add]
  have hg4 : 2 ^ (L - 52) = 4 * 2 ^ (L - 54) := by
    rw [show L - 52 = 2 + (L - 54) by omega, Nat.pow_add]
  have hh := Nat.two_pow_pos (L - 54)
  generalize 2 ^ (L - 52) = g at *
  generalize 2 ^ (L - 54) = h at *
  generalize (2 * D + s) / g = low at *
  generalize (2 * D + s) % g = rest at *
  generalize k + (L - 52) = q at *
  have pk := Nat.two_pow_pos k
  have hk1 : 2 ^ (k + 1) = 2 * 2 ^ k := by rw [Nat.pow_succ, Nat.mul_comm]
  rw [hk1]
  generalize 2 ^ k = P at *
  subst hg4
  clear l1 l2 hL hLL e0 hd e2 e3
  -- D in terms of the gap
  obtain ⟨t, ht⟩ : ∃ t, rest = 2 * t + s := by
    refine ⟨D - 2 * (h * low), ?_⟩
    rw [Nat.mul_assoc] at hdm
    omega
  have hDt : D = 2 * (h * low) + t := by
    rw [Nat.mul_assoc] at hdm
    omega
  -- Y in terms of A = h n
  have hYd := Nat.div_add_mod Y n
  have hYm := Nat.mod_lt Y hn
  rw [← hD] at hYd
  have hs0 : Y % n = 0 ↔ s = 0 := by
    subst hs
    by_cases e : Y % n = 0
    · simp [e]
    · simp [e]
  generalize Y % n = ρ at *
  have hY : Y = 2 * (low * (h * n)) + t * n + ρ := by
    rw [← hYd, hDt, Nat.mul_add, Nat.mul_comm n t]
    congr 2
    rw [Nat.mul_left_comm, Nat.mul_comm h low, Nat.mul_left_comm n low h, Nat.mul_comm n h]
  have hA : 0 < h * n := Nat.mul_pos hh hn
  have hC : ∀ x, t ≤ x → t * n ≤ x * n := fun x hx => Nat.mul_le_mul_right _ hx
  have hC2 : ∀ x, x ≤ t → x * n ≤ t * n := fun x hx => Nat.mul_le_mul_right _ hx
  -- values of the words, times n
  have vA : ∀ m, 4503599627370496 ≤ m → m ≤ 9007199254740992 → V (q * 4503599627370496 + m) * n = 4 * (m * (h * n)) * P := fun m h1 h2 => by
    rw [V_at h1 h2, hpow]
    rw [show m * (4 * h * P) * n = 4 * (m * (h * n)) * P by
      rw [Nat.mul_assoc 4 h P, Nat.mul_left_comm m 4, Nat.mul_assoc 4 (m * (h * P)) n, Nat.mul_assoc 4 (m * (h * n)) P]
      congr 1
      rw [Nat.mul_assoc m (h * P) n, Nat.mul_assoc m (h * n) P]
      congr 1
      rw [Nat.mul_right_comm]]
  have up : ∀ K, Y ≤ 2 * (K * (h * n)) + h * n → 2 * (Y * (2 * P)) ≤ 4 * (K * (h * n)) * P + 4 * ((K + 1) * (h * n)) * P := fun K hK => by
    have h1 := Nat.mul_le_mul_right P hK
    rw [Nat.add_mul, Nat.mul_assoc 2] at h1
    rw [Nat.mul_left_comm Y 2 P, Nat.mul_assoc 4, Nat.mul_assoc 4, Nat.add_mul K 1, Nat.one_mul, Nat.add_mul]
    omega
  have upS : ∀ K, Y < 2 * (K * (h * n)) + h * n → 2 * (Y * (2 * P)) < 4 * (K * (h * n)) * P + 4 * ((K + 1) * (h * n)) * P := fun K hK => by
    have h1 := Nat.mul_lt_mul_of_pos_right hK pk
    rw [Nat.add_mul, Nat.mul_assoc 2] at h1
    rw [Nat.mul_left_comm Y 2 P, Nat.mul_assoc 4, Nat.mul_assoc 4, Nat.add_mul K 1, Nat.one_mul, Nat.add_mul]
    omega
  have lo : ∀ K, 2 * (K * (h * n)) + h * n ≤ Y → 4 * (K * (h * n)) * P + 4 * ((K + 1) * (h * n)) * P ≤ 2 * (Y * (2 * P)) := fun K hK => by
    have h1 := Nat.mul_le_mul_right P hK
    rw [Nat.add_mul, Nat.mul_assoc 2] at h1
    rw [Nat.mul_left_comm Y 2 P, Nat.mul_assoc 4, Nat.mul_assoc 4, Nat.add_mul K 1, Nat.one_mul, Nat.add_mul]
    omega
  have loS : ∀ K, 2 * (K * (h * n)) + h * n < Y → 4 * (K * (h * n)) * P + 4 * ((K + 1) * (h * n)) * P < 2 * (Y * (2 * P)) := fun K hK => by
    have h1 := Nat.mul_lt_mul_of_pos_right hK pk
    rw [Nat.add_mul, Nat.mul_assoc 2] at h1
    rw [Nat.mul_left_comm Y 2 P, Nat.mul_assoc 4, Nat.mul_assoc 4, Nat.add_mul K 1, Nat.one_mul, Nat.add_mul]
    omega
  have htl : t < 2 * h := by omega
  have hKn : t * n + n ≤ 2 * (h * n) := by
    have := Nat.mul_le_mul_right n (show t + 1 ≤ 2 * h by omega)
    rw [Nat.add_mul, Nat.one_mul, Nat.mul_assoc] at this
    exact this
  cases hup : (decide (4 * h < 2 * rest) || (4 * h == 2 * rest && low % 2 == 1)) with
  | false =>
    simp only [Bool.or_eq_false_iff, decide_eq_false_iff_not, Bool.and_eq_false_iff, beq_eq_false_iff_ne] at hup
    obtain ⟨u1, u2⟩ := hup
    simp only [Bool.toNat_false, Nat.add_zero]
    have hup : Y ≤ 2 * (low * (h * n)) + h * n ∧ (Y = 2 * (low * (h * n)) + h * n → low % 2 = 0) := by
      by_cases e : s = 0
      · have r0 := hs0.2 e
        have := hC h (by omega)
        refine ⟨by omega, fun he => ?_⟩
        have : t = h := Nat.eq_of_mul_eq_mul_right hn (by omega)
        omega
      · have h1 := Nat.mul_le_mul_right n (show t + 1 ≤ h by omega)
        rw [Nat.add_mul, Nat.one_mul] at h1
        exact ⟨by omega, fun he => by omega⟩
    have vK := vA low hlow.1 (by omega)
    have vK1 := vA (low + 1) (by omega) (by omega)
    refine ⟨?_, ?_, ?_, ?_⟩
    · rw [Nat.add_mul, vK, Nat.add_assoc, vK1]
      exact up low hup.1
    · rw [Nat.add_mul, vK, Nat.add_assoc, vK1]
      intro he
      have : ¬ Y < 2 * (low * (h * n)) + h * n := fun hlt => by have := upS low hlt; omega
      have := hup.2 (by omega)
      omega
    · intro p hp
      by_cases e : low = 4503599627370496
      · have h1 := Nat.mul_le_mul_right n (Nat.le_of_lt (V_lt (show p < q * 4503599627370496 + low by omega)))
        rw [Nat.add_mul]
        rw [vK] at h1 ⊢
        have h2 := Nat.mul_le_mul_right P (show 2 * (low * (h * n)) ≤ Y by omega)
        rw [Nat.mul_assoc 2] at h2
        rw [Nat.mul_left_comm Y 2 P, Nat.mul_assoc 4]
        rw [Nat.mul_assoc 4] at h1
        omega
      · obtain rfl : p = q * 4503599627370496 + (low - 1) := by omega
        have vp := vA (low - 1) (by omega) (by omega)
        have hl := lo (low - 1) (by
          have : (low - 1) * (h * n) + h * n = low * (h * n) := by
            rw [← Nat.succ_mul]; congr 1; omega
          omega)
        rw [show low - 1 + 1 = low by omega] at hl
        rw [Nat.add_mul, vp, vK]
        exact hl
    · intro p hp he
      by_cases e : low = 4503599627370496
      · omega
      · exfalso
        obtain rfl : p = q * 4503599627370496 + (low - 1) := by omega
        have vp := vA (low - 1) (by omega) (by omega)
        have hl := loS (low - 1) (by
          have : (low - 1) * (h * n) + h * n = low * (h * n) := by
            rw [← Nat.succ_mul]; congr 1; omega
          omega)
        rw [show low - 1 + 1 = low by omega] at hl
        rw [Nat.add_mul, vp, vK] at he
        omega
  | true =>
    simp only [Bool.or_eq_true, decide_eq_true_eq, Bool.and_eq_true, beq_iff_eq] at hup
    simp only [Bool.toNat_true]
    have hlo : 2 * (low * (h * n)) + h * n ≤ Y ∧ (2 * (low * (h * n)) + h * n = Y → low % 2 = 1) := by
      have := hC2 h (by omega)
      refine ⟨by omega, fun he => ?_⟩
      rcases hup with u | u
      · exfalso
        have r0 : ρ = 0 := by omega
        have := hs0.1 r0
        have h1 := Nat.mul_le_mul_right n (show h + 1 ≤ t by omega)
        rw [Nat.add_mul, Nat.one_mul] at h1
        omega
      · exact u.2
    have hA1 : (low + 1) * (h * n) = low * (h * n) + h * n := by rw [Nat.add_mul, Nat.one_mul]
    have vK := vA low hlow.1 (by omega)
    have vK1 := vA (low + 1) (by omega) (by omega)
    have hbig : 4 * ((low + 1) * (h * n)) * P + 4 * ((low + 1 + 1) * (h * n)) * P ≤ (V (q * 4503599627370496 + (low + 1)) + V (q * 4503599627370496 + (low + 1) + 1)) * n := by
      rw [Nat.add_mul (V _) (V _) n, vK1]
      refine Nat.add_le_add_left ?_ _
      by_cases e : low + 2 ≤ 9007199254740992
      · have := vA (low + 2) (by omega) e
        rw [show q * 4503599627370496 + (low + 1) + 1 = q * 4503599627370496 + (low + 2) by omega, this]
        exact Nat.le_refl _
      · have e1 : q * 4503599627370496 + (low + 1) + 1 = (q + 1) * 4503599627370496 + 4503599627370497 := by omega
        have hq1 : (2 : Nat) ^ (q + 1) = 2 * (4 * h * P) := by rw [Nat.pow_succ, hpow, Nat.mul_comm]
        rw [e1, V_at (by omega) (by omega), hq1]
        have e2 : low + 1 + 1 = 9007199254740993 := by omega
        rw [e2]
        have e3 : 4503599627370497 * (2 * (4 * h * P)) * n = 4 * (9007199254740994 * (h * n)) * P := by
          rw [show 4503599627370497 * (2 * (4 * h * P)) * n = 9007199254740994 * 4 * (h * P * n) by
            rw [← Nat.mul_assoc 4503599627370497 2, Nat.mul_assoc 4 h P, ← Nat.mul_assoc _ 4 (h * P), Nat.mul_assoc _ (h * P) n]]
          rw [Nat.mul_right_comm h P n, Nat.mul_comm 9007199254740994 4, Nat.mul_assoc 4 9007199254740994, ← Nat.mul_assoc 9007199254740994 (h * n) P, ← Nat.mul_assoc 4]
        rw [e3]
        exact Nat.mul_le_mul_right _ (Nat.mul_le_mul_left _ (Nat.mul_le_mul_right _ (by omega)))
    have hst := upS (low + 1) (by omega)
    refine ⟨by omega, fun he => by omega, ?_, ?_⟩
    · intro p hp
      obtain rfl : p = q * 4503599627370496 + low := by omega
      rw [Nat.add_mul, vK, vK1]
      exact lo low hlo.1
    · intro p hp he
      obtain rfl : p = q * 4503599627370496 + low := by omega
      rw [Nat.add_mul, vK, vK1] at he
      have : ¬ 2 * (low * (h * n)) + h * n < Y := fun hlt => by have := loS low hlt; omega
      have := hlo.2 (by omega)
      omega

/-- the quotient of two counts is the word nearest to it -/
theorem quo_rn {T : Nat} (hT : T = 1074) {a b : Nat} (ha0 : 0 < a) (ha : a ≤ 1099511627776) (hb0 : 0 < b) (hb : b ≤ 1099511627776) :
    ∃ num den, 0 < den ∧ RN (quoW a b) num den ∧ num * b = a * 2 ^ T * den ∧ quoW a b < infW := by
  obtain ⟨a1, a2⟩ := near_bounds ha0 ha
  obtain ⟨b1, b2⟩ := near_bounds hb0 hb
  have ea := log2_40 ha0 ha
  have eb := log2_40 hb0 hb
  have ra := near_read ha0 ha
  have rb := near_read hb0 hb
  have hpa : a * 2 ^ (52 - a.log2) * 2 ^ a.log2 = a * 2 ^ 52 := by rw [Nat.mul_assoc, ← Nat.pow_add, show 52 - a.log2 + a.log2 = 52 by omega]
  have hpb : b * 2 ^ (52 - b.log2) * 2 ^ b.log2 = b * 2 ^ 52 := by rw [Nat.mul_assoc, ← Nat.pow_add, show 52 - b.log2 + b.log2 = 52 by omega]
  have hla : (a * 2 ^ (52 - a.log2)).log2 = 52 := (Nat.log2_eq_iff (by omega)).2 ⟨a1, a2⟩
  have hlb : (b * 2 ^ (52 - b.log2)).log2 = 52 := (Nat.log2_eq_iff (by omega)).2 ⟨b1, b2⟩
  have hk : quoW a b = min (rungOf (2 * ((a * 2 ^ (52 - a.log2)) * 2 ^ 54 / (b * 2 ^ (52 - b.log2))) + ((a * 2 ^ (52 - a.log2)) * 2 ^ 54 % (b * 2 ^ (52 - b.log2)) != 0).toNat) (1019 + a.log2 - b.log2)) infW := by
    have hD : 9007199254740992 ≤ (a * 2 ^ (52 - a.log2)) * 2 ^ 54 / (b * 2 ^ (52 - b.log2)) := by
      rw [Nat.le_div_iff_mul_le (by omega)]
      have : (2 : Nat) ^ 54 = 18014398509481984 := by decide
      omega
    unfold quoW Format.div
    rw [ra, rb]
    simp only [Datum.quotient, hla, hlb]
    rw [if_neg (by omega)]
    have e1 : double.fractionBits + 2 + 52 - 52 = 54 := by decide
    simp only [Option.map_some, e1, Format.write, Nat.shiftLeft_eq]
    have e2 : ((a.log2 : Int) - 52 - ((b.log2 : Int) - 52) - (54 : Nat) - 1) = -1074 + ((1019 + a.log2 - b.log2 : Nat) : Int) := by omega
    rw [show (false ^^ false) = false from rfl, e2, nearest_eq (by omega)]
  generalize hm : a * 2 ^ (52 - a.log2) = m at *
  generalize hn : b * 2 ^ (52 - b.log2) = n at *
  have hD : 9007199254740992 ≤ m * 2 ^ 54 / n := by
    rw [Nat.le_div_iff_mul_le (by omega)]
    have : (2 : Nat) ^ 54 = 18014398509481984 := by decide
    omega
  have hrn := rung_rn (k := 1019 + a.log2 - b.log2) (show 0 < n by omega) rfl rfl hD
  -- below infinity
  have hfin : rungOf (2 * (m * 2 ^ 54 / n) + (m * 2 ^ 54 % n != 0).toNat) (1019 + a.log2 - b.log2) < infW := by
    have hs1 : (m * 2 ^ 54 % n != 0).toNat ≤ 1 := by cases (m * 2 ^ 54 % n != 0) <;> simp
    have hD2 : m * 2 ^ 54 / n < 36028797018963968 := by
      rw [Nat.div_lt_iff_lt_mul (by omega)]
      have : (2 : Nat) ^ 54 = 18014398509481984 := by decide
      omega
    obtain ⟨K, hK⟩ : ∃ K, K = 1065 := ⟨_, rfl⟩
    have h1 := (rung_laws (k := 1019 + a.log2 - b.log2) (show 2 * (m * 2 ^ 54 / n) + (m * 2 ^ 54 % n != 0).toNat ≠ 0 by omega)).1 ((K + 5) * 4503599627370496 + 4503599627370496) (by
      rw [V_at (Nat.le_refl _) (by omega)]
      have h2 : 2 ^ (1019 + a.log2 - b.log2) ≤ 2 ^ K := Nat.pow_le_pow_right (by omega) (by omega)
      have h3 : 2 ^ 57 * 2 ^ K = 2 ^ 52 * 2 ^ (K + 5) := by rw [← Nat.pow_add, ← Nat.pow_add]; congr 1; omega
      have h4 : (2 : Nat) ^ 52 = 4503599627370496 := by decide
      have h5 : (2 : Nat) ^ 57 = 144115188075855872 := by decide
      rw [h4, h5] at h3
      have h6 : 2 * (m * 2 ^ 54 / n) + (m * 2 ^ 54 % n != 0).toNat ≤ 144115188075855872 := by omega
      exact Nat.le_trans (Nat.mul_le_mul h6 h2) (Nat.le_of_eq h3))
    have : infW = 9218868437227405312 := rfl
    omega
  rw [hk, Nat.min_eq_left (Nat.le_of_lt hfin)]
  refine ⟨_, _, by omega, hrn, ?_, hfin⟩
  -- num b = a 2^1074 den
  have hx : m * 2 ^ 54 * 2 ^ (1019 + a.log2 - b.log2 + 1) * b * 2 ^ 52 = a * 2 ^ T * n * 2 ^ 52 := by
    rw [Nat.mul_assoc _ b, ← hpb]
    rw [show a * 2 ^ T * n * 2 ^ 52 = a * 2 ^ 52 * (2 ^ T * n) by rw [Nat.mul_right_comm, Nat.mul_right_comm a, Nat.mul_assoc]]
    rw [← hpa]
    rw [show m * 2 ^ 54 * 2 ^ (1019 + a.log2 - b.log2 + 1) * (n * 2 ^ b.log2) = m * n * (2 ^ 54 * 2 ^ (1019 + a.log2 - b.log2 + 1) * 2 ^ b.log2) by
      rw [Nat.mul_assoc m, ← Nat.mul_assoc (m * _) n, Nat.mul_right_comm m _ n, Nat.mul_assoc (m * n)]]
    rw [show m * 2 ^ a.log2 * (2 ^ T * n) = m * n * (2 ^ T * 2 ^ a.log2) by
      rw [Nat.mul_assoc m, ← Nat.mul_assoc (2 ^ a.log2), Nat.mul_comm (2 ^ a.log2 * 2 ^ T) n, ← Nat.mul_assoc, Nat.mul_comm (2 ^ a.log2)]]
    refine congrArg (m * n * ·) ?_
    rw [← Nat.pow_add, ← Nat.pow_add, ← Nat.pow_add]
    refine congrArg (2 ^ ·) ?_
    omega
  exact Nat.eq_of_mul_eq_mul_right (Nat.two_pow_pos 52) hx
theorem quo_zero {b : Nat} (hb0 : 0 < b) (hb : b ≤ 1099511627776) : quoW 0 b = 0 := by
  obtain ⟨b1, b2⟩ := near_bounds hb0 hb
  unfold quoW Format.div
  rw [show ((0 : Nat) : Int) = 0 from rfl, near_zero, read_zero, near_read hb0 hb]
  simp only [Datum.quotient]
  rw [if_neg (by omega)]
  simp only [Option.map_some, Format.write, Nat.shiftLeft_eq, Nat.zero_mul, Nat.zero_div, Nat.zero_mod, bne_self_eq_false, Bool.toNat_false]
  unfold Format.nearest
  rw [if_pos rfl, word_false]
theorem quo_fin {a b : Nat} (ha : a ≤ 1099511627776) (hb0 : 0 < b) (hb : b ≤ 1099511627776) : quoW a b < infW := by
  rcases Nat.eq_zero_or_pos a with h | h
  · subst h; rw [quo_zero hb0 hb]; decide
  · obtain ⟨_, _, _, _, _, h⟩ := quo_rn rfl h ha hb0 hb; exact h
/-- the quotients stand in the order of the numbers -/
theorem quo_mono {a b c d : Nat} (ha : a ≤ 1099511627776) (hb0 : 0 < b) (hb : b ≤ 1099511627776) (hc : c ≤ 1099511627776) (hd0 : 0 < d) (hd : d ≤ 1099511627776) (h : a * d ≤ c * b) : quoW a b ≤ quoW c d := by
  rcases Nat.eq_zero_or_pos a with h0 | h0
  · subst h0; rw [quo_zero hb0 hb]; exact Nat.zero_le _
  · have hc0 : 0 < c := by
      rcases Nat.eq_zero_or_pos c with e | e
      · subst e; have := Nat.mul_pos h0 hd0; omega
      · exact e
    obtain ⟨T, hT⟩ : ∃ T, T = 1074 := ⟨_, rfl⟩
    obtain ⟨n1, d1, p1, r1, e1, _⟩ := quo_rn hT h0 ha hb0 hb
    obtain ⟨n2, d2, p2, r2, e2, _⟩ := quo_rn hT hc0 hc hd0 hd
    refine r1.mono r2 p1 p2 ?_
    have key : n1 * d2 * (b * d) ≤ n2 * d1 * (b * d) := by
      have l : n1 * d2 * (b * d) = a * d * (2 ^ T * (d1 * d2)) := by
        rw [Nat.mul_mul_mul_comm, e1]
        simp only [Nat.mul_assoc, Nat.mul_left_comm, Nat.mul_comm]
      have r : n2 * d1 * (b * d) = c * b * (2 ^ T * (d1 * d2)) := by
        rw [Nat.mul_comm b d, Nat.mul_mul_mul_comm, e2]
        simp only [Nat.mul_assoc, Nat.mul_left_comm, Nat.mul_comm]
      rw [l, r]
      exact Nat.mul_le_mul_right _ h
    exact Nat.le_of_mul_le_mul_right key (Nat.mul_pos hb0 hd0)
end Go.Proofs.Ytdacclclalhbaaa
