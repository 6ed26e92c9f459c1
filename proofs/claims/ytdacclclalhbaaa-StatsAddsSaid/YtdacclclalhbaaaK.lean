/- The last test of StatsAdds in numbers; no program. No condition. -/
import Derived.Test.YtdacclclalhbaaaJ
namespace Go.Proofs.Ytdacclclalhbaaa
open Ieee

theorem read_norm {x : Nat} (h0 : 4503599627370496 ≤ x) (h : x < infW) :
    double.read x = .number false (4503599627370496 + x % 4503599627370496) (-1074 + ((x / 4503599627370496 - 1 : Nat) : Int)) ∧ V x = (4503599627370496 + x % 4503599627370496) * 2 ^ (x / 4503599627370496 - 1) := by
  have hi2 : infW = 9218868437227405312 := rfl
  have hs : double.signWeight = 9223372036854775808 := by decide
  have hb : double.binade = 4503599627370496 := by decide
  have hi : double.infRung = 9218868437227405312 := by decide
  have e1 : x % 9223372036854775808 = x := by omega
  have e2 : (x / 9223372036854775808 % 2 == 1) = false := by
    have : x / 9223372036854775808 = 0 := by omega
    rw [this]; decide
  constructor
  · unfold Format.read
    simp only [hs, hb, hi, lp, e1, e2]
    rw [if_neg (by omega), if_pos h]
  · unfold V
    rw [if_neg (by omega)]
/-- a word that is 0 or not small -/
def Mid (x : Nat) : Prop := x < infW ∧ (x = 0 ∨ 418834765345456128 ≤ x)

theorem read_c1 : double.read 4427038433705197568 = .number false 4503599627370496 (-92) := by decide
theorem read_c2 : double.read 4607182418800021504 = .number false 4503599627374592 (-52) := by decide

/-- a small part -/
theorem mul_small {x : Nat} (h : Mid x) : ∃ t, double.mul 4427038433705197568 x = some t ∧ t ≤ x := by
  obtain ⟨h1, rfl | h2⟩ := h
  · unfold Format.mul
    rw [read_c1, read_zero]
    simp only [Datum.product, Nat.mul_zero, Option.map_some, Format.write]
    refine ⟨_, rfl, ?_⟩
    unfold Format.nearest
    rw [if_pos rfl, show (false ^^ false) = false from rfl, word_false]
    exact Nat.le_refl _
  · obtain ⟨r, v⟩ := read_norm (by omega) h1
    unfold Format.mul
    rw [read_c1, r]
    simp only [Datum.product, Option.map_some, Format.write]
    have hk : 92 ≤ x / 4503599627370496 - 1 := by omega
    generalize x / 4503599627370496 - 1 = k at *
    generalize 4503599627370496 + x % 4503599627370496 = m at *
    refine ⟨_, rfl, ?_⟩
    rw [show (false ^^ false) = false from rfl, show (-92 : Int) + (-1074 + (k : Int)) = -1074 + ((k - 92 : Nat) : Int) by omega]
    refine nearest_up ?_
    rw [v]
    have e1 : 2 ^ k = 2 ^ 40 * (2 ^ 52 * 2 ^ (k - 92)) := by rw [← Nat.pow_add, ← Nat.pow_add]; congr 1; omega
    have e2 : (2 : Nat) ^ 52 = 4503599627370496 := by decide
    rw [e1, e2]
    generalize 2 ^ (k - 92) = p
    rw [Nat.mul_comm 4503599627370496 m, Nat.mul_assoc]
    refine Nat.mul_le_mul_left _ ?_
    exact Nat.le_mul_of_pos_left _ (by decide)
/-- a little more -/
theorem mul_more {x : Nat} (h : Mid x) : ∃ u, double.mul x 4607182418800021504 = some u ∧ x ≤ u ∧ u ≤ infW := by
  obtain ⟨h1, rfl | h2⟩ := h
  · unfold Format.mul
    rw [read_c2, read_zero]
    simp only [Datum.product, Option.map_some, Format.write]
    exact ⟨_, rfl, Nat.zero_le _, nearest_le _ _⟩
  · obtain ⟨r, v⟩ := read_norm (by omega) h1
    unfold Format.mul
    rw [read_c2, r]
    simp only [Datum.product, Option.map_some, Format.write]
    have hk : 92 ≤ x / 4503599627370496 - 1 := by omega
    generalize x / 4503599627370496 - 1 = k at *
    generalize 4503599627370496 + x % 4503599627370496 = m at *
    refine ⟨_, rfl, ?_, nearest_le _ _⟩
    rw [show (false ^^ false) = false from rfl, show -1074 + (k : Int) + -52 = -1074 + ((k - 52 : Nat) : Int) by omega]
    refine nearest_down (Nat.le_of_lt h1) ?_
    rw [v]
    have e1 : 2 ^ k = 2 ^ 52 * 2 ^ (k - 52) := by rw [← Nat.pow_add]; congr 1; omega
    have e2 : (2 : Nat) ^ 52 = 4503599627370496 := by decide
    rw [e1, e2, ← Nat.mul_assoc]
    refine Nat.mul_le_mul_right _ (Nat.mul_le_mul_left _ (by omega))

theorem read_neg {r : Nat} (h : r ≤ infW) : (∃ m p, double.read (9223372036854775808 + r) = .number true m p) ∨ double.read (9223372036854775808 + r) = .infinity true := by
  have hi2 : infW = 9218868437227405312 := rfl
  have hs : double.signWeight = 9223372036854775808 := by decide
  have hb : double.binade = 4503599627370496 := by decide
  have hi : double.infRung = 9218868437227405312 := by decide
  have e1 : (9223372036854775808 + r) % 9223372036854775808 = r := by omega
  have e2 : ((9223372036854775808 + r) / 9223372036854775808 % 2 == 1) = true := by
    have : (9223372036854775808 + r) / 9223372036854775808 = 1 := by omega
    rw [this]; decide
  unfold Format.read
  simp only [hs, hb, hi, e1, e2]
  by_cases h1 : r < 4503599627370496
  · rw [if_pos h1]; exact .inl ⟨_, _, rfl⟩
  · rw [if_neg h1]
    by_cases h2 : r < 9218868437227405312
    · rw [if_pos h2]; exact .inl ⟨_, _, rfl⟩
    · rw [if_neg h2, if_pos (by omega)]; exact .inr rfl
theorem nearest_true (m : Nat) (p : Int) : ∃ r, r ≤ infW ∧ double.nearest true m p = 9223372036854775808 + r := by
  have hs : double.signWeight = 9223372036854775808 := by decide
  have hi : double.infRung = 9218868437227405312 := by decide
  unfold Format.nearest Format.word
  rw [hs, hi]
  split
  · exact ⟨0, Nat.zero_le _, rfl⟩
  · exact ⟨_, Nat.min_le_right _ _, rfl⟩
theorem order_geq {z s : Nat} (hz : z < infW) (h : s ≤ z ∨ ∃ r, r ≤ infW ∧ s = 9223372036854775808 + r) : (double.order z s == some .gt || double.order z s == some .eq) = true := by
  rcases h with h | ⟨r, hr, rfl⟩
  · rw [order_words (by omega) (by omega)]
    by_cases e : s = z
    · subst e
      simp [compare, compareOfLessAndEq]
    · have h1 : ¬ z < s := by omega
      have h2 : ¬ z = s := fun h => e h.symm
      simp only [compare, compareOfLessAndEq, if_neg h1, if_neg h2]
      decide
  · obtain ⟨m, k, e1, _⟩ := read_fin hz
    unfold Format.order
    rw [e1]
    rcases read_neg hr with ⟨n, p, e2⟩ | e2
    · rw [e2]
      simp only [Datum.order]
      have hs : ∀ a t, 0 ≤ signed false a t := fun a t => by
        simp only [signed, Bool.false_eq_true, if_false]
        exact Int.natCast_nonneg _
      have ht : ∀ a t, signed true a t ≤ 0 := fun a t => by
        simp only [signed, if_true]
        have := Int.natCast_nonneg (a <<< t)
        omega
      generalize (-1074 + (k : Int) - min (-1074 + (k : Int)) p).toNat = u
      generalize (p - min (-1074 + (k : Int)) p).toNat = v
      have a1 := hs m u
      have a2 := ht n v
      generalize signed false m u = A at *
      generalize signed true n v = B at *
      have h1 : ¬ A < B := by omega
      simp only [compare, compareOfLessAndEq, if_neg h1]
      split <;> decide
    · rw [e2]
      simp only [Datum.order]
      decide
/-- less a small part: no more than before -/
theorem sub_small {x t : Nat} (hx : x < infW) (ht : t < infW) : ∃ s, double.sub x t = some s ∧ (s ≤ x ∨ ∃ r, r ≤ infW ∧ s = 9223372036854775808 + r) := by
  obtain ⟨m, k, e1, v1⟩ := read_fin hx
  obtain ⟨n, l, e2, v2⟩ := read_fin ht
  unfold Format.sub
  rw [e1, e2]
  simp only [Datum.opposite, Datum.sum, Option.map_some, Format.write, Bool.not_false]
  refine ⟨_, rfl, ?_⟩
  have hb : min (-1074 + (k : Int)) (-1074 + (l : Int)) = -1074 + ((min k l : Nat) : Int) := by omega
  rw [hb]
  have ea : (-1074 + (k : Int) - (-1074 + ((min k l : Nat) : Int))).toNat = k - min k l := by omega
  have eb : (-1074 + (l : Int) - (-1074 + ((min k l : Nat) : Int))).toNat = l - min k l := by omega
  rw [ea, eb]
  have s1 : signed false m (k - min k l) = ((m * 2 ^ (k - min k l) : Nat) : Int) := by simp [signed, Nat.shiftLeft_eq]
  have s2 : signed true n (l - min k l) = -((n * 2 ^ (l - min k l) : Nat) : Int) := by simp [signed, Nat.shiftLeft_eq]
  rw [s1, s2]
  have w1 : V x = m * 2 ^ (k - min k l) * 2 ^ (min k l) := by rw [v1, Nat.mul_assoc, ← Nat.pow_add, Nat.sub_add_cancel (Nat.min_le_left _ _)]
  generalize m * 2 ^ (k - min k l) = M at *
  generalize n * 2 ^ (l - min k l) = N at *
  generalize min k l = j at *
  by_cases h0 : (M : Int) + -(N : Int) = 0
  · rw [if_pos h0]
    refine .inl (nearest_up ?_)
    rw [h0]
    simp
  · rw [if_neg h0]
    by_cases h1 : (M : Int) + -(N : Int) < 0
    · rw [decide_eq_true h1]
      exact .inr (nearest_true _ _)
    · rw [decide_eq_false h1]
      refine .inl (nearest_up ?_)
      rw [w1]
      exact Nat.mul_le_mul_right _ (by omega)
theorem order_leq {z u : Nat} (hz : z ≤ u) (hu : u ≤ infW) : (double.order z u == some .lt || double.order z u == some .eq) = true := by
  rw [order_words (by omega) hu]
  by_cases e : z = u
  · subst e
    simp [compare, compareOfLessAndEq]
  · have h1 : z < u := by omega
    simp only [compare, compareOfLessAndEq, if_pos h1]
    decide
/-- the last test -/
theorem adds_test {x y z : Nat} (hx : Mid x) (hy : Mid y) (hz : z < infW) (h1 : min x y ≤ z) (h2 : z ≤ max x y) :
    ∃ t s u, double.mul 4427038433705197568 (max x y) = some t ∧ double.sub (min x y) t = some s ∧ double.mul (max x y) 4607182418800021504 = some u ∧
      (double.order z s == some .gt || double.order z s == some .eq) = true ∧ (double.order z u == some .lt || double.order z u == some .eq) = true := by
  have hm : Mid (max x y) := by
    rcases Nat.le_total x y with h | h
    · rw [Nat.max_eq_right h]; exact hy
    · rw [Nat.max_eq_left h]; exact hx
  have hn : min x y < infW := Nat.lt_of_le_of_lt (Nat.min_le_left _ _) hx.1
  obtain ⟨t, ht, ht2⟩ := mul_small hm
  obtain ⟨s, hs, hs2⟩ := sub_small hn (Nat.lt_of_le_of_lt ht2 hm.1)
  obtain ⟨u, hu, hu2, hu3⟩ := mul_more hm
  refine ⟨t, s, u, ht, hs, hu, order_geq hz ?_, order_leq (Nat.le_trans h2 hu2) hu3⟩
  rcases hs2 with h | h
  · exact .inl (Nat.le_trans h h1)
  · exact .inr h
theorem least_mid : 418834765345456128 ≤ quoW 1 1000 := by decide +kernel
/-- the survivals of two sums, and of their sum -/
theorem adds_quo {a b c d : Nat} (ha : a ≤ 999) (hb0 : 0 < b) (hb : b ≤ 1000) (hc : c ≤ 999) (hd0 : 0 < d) (hd : d ≤ 1000) :
    Mid (quoW a b) ∧ Mid (quoW c d) ∧ quoW (a + c) (b + d) < infW ∧ min (quoW a b) (quoW c d) ≤ quoW (a + c) (b + d) ∧ quoW (a + c) (b + d) ≤ max (quoW a b) (quoW c d) := by
  have mid : ∀ a b, a ≤ 999 → 0 < b → b ≤ 1000 → Mid (quoW a b) := fun a b ha hb0 hb => by
    refine ⟨quo_fin (by omega) hb0 (by omega), ?_⟩
    rcases Nat.eq_zero_or_pos a with h | h
    · subst h; exact .inl (quo_zero hb0 (by omega))
    · refine .inr (Nat.le_trans least_mid (quo_mono (by omega) (by omega) (by omega) (by omega) hb0 (by omega) ?_))
      have := Nat.mul_le_mul h (Nat.le_refl 1000)
      omega
  refine ⟨mid a b ha hb0 hb, mid c d hc hd0 hd, quo_fin (by omega) (by omega) (by omega), ?_, ?_⟩
  · rcases Nat.le_total (a * d) (c * b) with h | h
    · refine Nat.le_trans (Nat.min_le_left _ _) (quo_mono (by omega) hb0 (by omega) (by omega) (by omega) (by omega) ?_)
      rw [Nat.mul_add, Nat.add_mul]; omega
    · refine Nat.le_trans (Nat.min_le_right _ _) (quo_mono (by omega) hd0 (by omega) (by omega) (by omega) (by omega) ?_)
      rw [Nat.mul_add, Nat.add_mul]; omega
  · rcases Nat.le_total (a * d) (c * b) with h | h
    · refine Nat.le_trans (quo_mono (by omega) (by omega) (by omega) (by omega) hd0 (by omega) ?_) (Nat.le_max_right _ _)
      rw [Nat.mul_add, Nat.add_mul]; omega
    · refine Nat.le_trans (quo_mono (by omega) (by omega) (by omega) (by omega) hb0 (by omega) ?_) (Nat.le_max_left _ _)
      rw [Nat.mul_add, Nat.add_mul]; omega
end Go.Proofs.Ytdacclclalhbaaa
