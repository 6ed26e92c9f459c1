/- The numbers that Ratio gives, as words of 64 bits, and their order; no program. No condition. -/
import Derived.Laws.FloatArith
import Derived.Laws.Cover2
namespace Go.Proofs.Ytdacclclalhbaaa
open Ieee

/-- the word of infinity -/
abbrev infW : Nat := 9218868437227405312
/-- the value of a word that is no more than infinity, in the format's least units -/
def V (x : Nat) : Nat := if x < 4503599627370496 then x else (4503599627370496 + x % 4503599627370496) * 2 ^ (x / 4503599627370496 - 1)
theorem V_step (x : Nat) : V x < V (x + 1) := by
  unfold V
  by_cases h1 : x < 4503599627370496
  · rw [if_pos h1]
    by_cases h2 : x + 1 < 4503599627370496
    · rw [if_pos h2]; omega
    · rw [if_neg h2]
      obtain rfl : x = 4503599627370495 := by omega
      decide
  · rw [if_neg h1, if_neg (by omega)]
    by_cases h2 : x % 4503599627370496 = 4503599627370495
    · have e1 : (x + 1) % 4503599627370496 = 0 := by omega
      have e2 : (x + 1) / 4503599627370496 - 1 = (x / 4503599627370496 - 1) + 1 := by omega
      rw [e1, e2, h2, Nat.pow_succ]
      have := Nat.two_pow_pos (x / 4503599627370496 - 1)
      generalize 2 ^ (x / 4503599627370496 - 1) = p at *
      omega
    · have e1 : (x + 1) % 4503599627370496 = x % 4503599627370496 + 1 := by omega
      have e2 : (x + 1) / 4503599627370496 = x / 4503599627370496 := by omega
      rw [e1, e2]
      exact Nat.mul_lt_mul_of_pos_right (by omega) (Nat.two_pow_pos _)
theorem V_mono : ∀ (d x : Nat), V x < V (x + (d + 1))
  | 0, x => V_step x
  | d + 1, x => Nat.lt_trans (V_mono d x) (V_step (x + (d + 1)))
theorem V_lt {x y : Nat} (h : x < y) : V x < V y := by
  have := V_mono (y - x - 1) x
  rwa [show x + (y - x - 1 + 1) = y by omega] at this
theorem V_le {x y : Nat} (h : x ≤ y) : V x ≤ V y := by
  rcases Nat.lt_or_eq_of_le h with h | h
  · exact Nat.le_of_lt (V_lt h)
  · subst h; exact Nat.le_refl _
theorem lt_of_V {x y : Nat} (h : V x < V y) : x < y := by
  rcases Nat.lt_or_ge x y with h' | h'
  · exact h'
  · have := V_le h'; omega
theorem le_of_V {x y : Nat} (h : V x ≤ V y) : x ≤ y := by
  rcases Nat.lt_or_ge y x with h' | h'
  · have := V_lt h'; omega
  · exact h'

theorem lp : double.leastPlace = -1074 := by decide
/-- what a word below infinity reads as -/
theorem read_fin {x : Nat} (h : x < infW) : ∃ (m k : Nat), double.read x = .number false m (-1074 + (k : Int)) ∧ V x = m * 2 ^ k := by
  have hs : double.signWeight = 9223372036854775808 := by decide
  have hb : double.binade = 4503599627370496 := by decide
  have hi : double.infRung = 9218868437227405312 := by decide
  have e1 : x % 9223372036854775808 = x := by have : infW = 9218868437227405312 := rfl; omega
  have e2 : (x / 9223372036854775808 % 2 == 1) = false := by
    have : x / 9223372036854775808 = 0 := by have : infW = 9218868437227405312 := rfl; omega
    rw [this]; decide
  unfold Format.read
  simp only [hs, hb, hi, lp, e1, e2]
  unfold V
  by_cases h1 : x < 4503599627370496
  · rw [if_pos h1]
    exact ⟨x, 0, by simp, by rw [if_pos h1]; simp⟩
  · rw [if_neg h1, if_pos h]
    exact ⟨_, x / 4503599627370496 - 1, rfl, by rw [if_neg h1]⟩
theorem read_inf : double.read infW = .infinity false := by decide

theorem order_fin {x y : Nat} (hx : x < infW) (hy : y < infW) : double.order x y = some (compare x y) := by
  obtain ⟨m, k, e1, v1⟩ := read_fin hx
  obtain ⟨n, l, e2, v2⟩ := read_fin hy
  unfold Format.order
  rw [e1, e2]
  simp only [Datum.order, Option.some.injEq]
  -- both over one unit
  have key : ∀ a b : Nat, compare (a : Int) (b : Int) = compare a b := fun a b => by
    simp only [compare, compareOfLessAndEq, Int.ofNat_lt, Int.ofNat_inj]
  have hsig : ∀ a s : Nat, signed false a s = ((a * 2 ^ s : Nat) : Int) := fun a s => by simp [signed, Nat.shiftLeft_eq]
  rw [hsig, hsig, key]
  have hcmp : ∀ a b c d : Nat, (a < b ↔ c < d) → (a = b ↔ c = d) → compare a b = compare c d := fun a b c d h1 h2 => by
    simp only [compare, compareOfLessAndEq]
    by_cases h : a < b
    · rw [if_pos h, if_pos (h1.1 h)]
    · rw [if_neg h, if_neg (fun h' => h (h1.2 h'))]
      by_cases h' : a = b
      · rw [if_pos h', if_pos (h2.1 h')]
      · rw [if_neg h', if_neg (fun h'' => h' (h2.2 h''))]
  -- the least of the two places
  have hp : ∀ (i j : Nat), i ≤ j → (-1074 + (i : Int) - min (-1074 + (i : Int)) (-1074 + (j : Int))).toNat = 0 ∧ (-1074 + (j : Int) - min (-1074 + (i : Int)) (-1074 + (j : Int))).toNat = j - i := by
    intro i j h; omega
  have hq : ∀ (i j : Nat), j ≤ i → (-1074 + (i : Int) - min (-1074 + (i : Int)) (-1074 + (j : Int))).toNat = i - j ∧ (-1074 + (j : Int) - min (-1074 + (i : Int)) (-1074 + (j : Int))).toNat = 0 := by
    intro i j h; omega
  have hV : (V x < V y ↔ x < y) ∧ (V x = V y ↔ x = y) := ⟨⟨lt_of_V, V_lt⟩, ⟨fun h => by
    rcases Nat.lt_trichotomy x y with h' | h' | h'
    · have := V_lt h'; omega
    · exact h'
    · have := V_lt h'; omega, fun h => by rw [h]⟩⟩
  rcases Nat.le_total k l with h | h
  · obtain ⟨a, b⟩ := hp k l h
    rw [a, b]
    have e : V y = n * 2 ^ (l - k) * 2 ^ k := by rw [v2, Nat.mul_assoc, ← Nat.pow_add]; congr 2; omega
    have pk := Nat.two_pow_pos k
    refine hcmp _ _ _ _ ?_ ?_
    · rw [← hV.1, v1, e, Nat.pow_zero, Nat.mul_one]
      exact ⟨fun h => Nat.mul_lt_mul_of_pos_right h pk, fun h => Nat.lt_of_mul_lt_mul_right h⟩
    · rw [← hV.2, v1, e, Nat.pow_zero, Nat.mul_one]
      exact ⟨fun h => by rw [h], fun h => Nat.eq_of_mul_eq_mul_right pk h⟩
  · obtain ⟨a, b⟩ := hq k l h
    rw [a, b]
    have e : V x = m * 2 ^ (k - l) * 2 ^ l := by rw [v1, Nat.mul_assoc, ← Nat.pow_add]; congr 2; omega
    have pk := Nat.two_pow_pos l
    refine hcmp _ _ _ _ ?_ ?_
    · rw [← hV.1, v2, e, Nat.pow_zero, Nat.mul_one]
      exact ⟨fun h => Nat.mul_lt_mul_of_pos_right h pk, fun h => Nat.lt_of_mul_lt_mul_right h⟩
    · rw [← hV.2, v2, e, Nat.pow_zero, Nat.mul_one]
      exact ⟨fun h => by rw [h], fun h => Nat.eq_of_mul_eq_mul_right pk h⟩

theorem order_words {x y : Nat} (hx : x ≤ infW) (hy : y ≤ infW) : double.order x y = some (compare x y) := by
  rcases Nat.lt_or_eq_of_le hx with h1 | h1
  · rcases Nat.lt_or_eq_of_le hy with h2 | h2
    · exact order_fin h1 h2
    · subst h2
      obtain ⟨m, k, e1, _⟩ := read_fin h1
      unfold Format.order
      rw [e1, read_inf]
      simp only [Datum.order, Option.some.injEq, compare, compareOfLessAndEq, if_pos h1]
      rfl
  · subst h1
    rcases Nat.lt_or_eq_of_le hy with h2 | h2
    · obtain ⟨m, k, e1, _⟩ := read_fin h2
      unfold Format.order
      rw [e1, read_inf]
      have h3 : ¬ infW < y := by omega
      have h4 : ¬ infW = y := by omega
      simp only [Datum.order, Option.some.injEq, compare, compareOfLessAndEq, if_neg h3, if_neg h4]
      rfl
    · subst h2
      decide

/-- the bits of a number that is none -/
def NanW (x : Nat) : Prop := x < 18446744073709551616 ∧ ∃ s t, double.read x = .nan s t
theorem order_nan_left {x : Nat} (h : NanW x) (y : Nat) : double.order x y = none := by
  obtain ⟨_, s, t, e⟩ := h
  unfold Format.order
  rw [e]; rfl
theorem order_nan_right {y : Nat} (h : NanW y) (x : Nat) : double.order x y = none := by
  obtain ⟨_, s, t, e⟩ := h
  unfold Format.order
  rw [e]; cases double.read x <;> rfl
/-- the model's own choice of a number that is none -/
theorem nan_cut (t : Nat) : NanW ((t % 2) * 2 ^ 63 + 0x7ff0000000000000 + 1 + (t / 2) % (2 ^ 52 - 1)) := by
  have h1 : t % 2 < 2 := Nat.mod_lt _ (by omega)
  have h2 : (t / 2) % (2 ^ 52 - 1) < 2 ^ 52 - 1 := Nat.mod_lt _ (by decide)
  generalize t % 2 = a at *
  generalize (t / 2) % (2 ^ 52 - 1) = b at *
  refine ⟨by omega, ?_⟩
  have hs : double.signWeight = 9223372036854775808 := by decide
  have hb : double.binade = 4503599627370496 := by decide
  have hi : double.infRung = 9218868437227405312 := by decide
  unfold Format.read
  simp only [hs, hb, hi]
  have e1 : (a * 2 ^ 63 + 0x7ff0000000000000 + 1 + b) % 9223372036854775808 = 0x7ff0000000000000 + 1 + b := by omega
  rw [e1, if_neg (by omega), if_neg (by omega), if_neg (by omega)]
  exact ⟨_, _, rfl⟩

/-- what a number is, for the order: the words up to infinity, and above them what is no number -/
def Is (k r : Nat) : Prop := (k ≤ infW ∧ r = k) ∨ (k = infW + 1 ∧ NanW r)
/-- how two of them stand -/
def ordK (k l : Nat) : Int := if k < l then -1 else if k = l then 0 else 1

/-- the quotient of two counts, for the order -/
def quoW (a b : Nat) : Nat := match double.div (FloatKind.f64.nearest a) (FloatKind.f64.nearest b) with | some r => r | none => infW + 1
end Go.Proofs.Ytdacclclalhbaaa
