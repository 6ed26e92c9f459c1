/- The walks of package arena's checks, of clone.Words and of the deferred function that catches. Conditions: the ranges that each theorem states. -/
import Derived.Test.YtodoeckikkeacaaRows
import Derived.WalkKit
import Derived.WalkSpells
import Derived.WalkLawsBesides
import Derived.Lib.Hide
import Derived.Defers
import Derived.Recover
import Derived.Test.YtodoeckikkeacaaMem
namespace Go.Proofs.Ytodoeckikkeacaa
open Go.RowKit Go.Draw

theorem Try.mixed : Try.prog.follows .mixedOrders = true := by kernel_rfl
theorem ret_bool {a b : Bool} (h : a = b) : Ending.returned (.bool a) = .returned (.bool b) := by rw [h]
theorem ret_int {k : IntKind} {a b : Int} (h : a = b) : Ending.returned (.int k a) = .returned (.int k b) := by rw [h]
def words (rs : List Int) : List Value := rs.map (.int .u64)
/-- what an access outside panics with -/
def Out (a : Int) (e : Ending) : Prop := e = .panicked [{ v := .iface 50 (.agg #[.int .i64 a]), recovered := false }]

theorem at_in (b o n c k : Nat) (w : World) (hk : k < n) (hn : n ≤ 1000000) :
    Calls Try.prog 25 #[.slice (some ⟨b, o, none⟩) n c, .int .i64 (k : Int)] w fun e w' => e = .returned (.pointer (some ⟨b, o + k, none⟩)) ∧ w = w' := by
  have h1 : decide ((k : Int) < 0) = false := by simp
  have h2 : decide ((n : Int) ≤ k) = false := by simp; omega
  have h2' : decide (n ≤ k) = false := by simp; omega
  have h3 : (k : Int) < n := by omega
  go_enter Try.func25, Try.ntmps25
  go_wp2
  go_ret
  exact ⟨rfl, rfl⟩

theorem at_out (A : Option Addr) (n c : Nat) (a : Int) (w : World) (h : a < 0 ∨ (n : Int) ≤ a) :
    Calls Try.prog 25 #[.slice A n c, .int .i64 a] w fun e w' => Out a e ∧ w = w' := by
  by_cases h0 : a < 0
  · have h1 : decide (a < 0) = true := by simpa using h0
    clear h h0
    go_enter Try.func25, Try.ntmps25
    go_wp2
    simp [bodyPost, Out]
  · have h1 : decide (a < 0) = false := by simpa using h0
    have h2 : decide ((n : Int) ≤ a) = true := by simp; omega
    clear h h0
    go_enter Try.func25, Try.ntmps25
    go_wp2
    simp [bodyPost, Out]

theorem caught_idle (p : Addr) (w : World) :
    CallsD Try.prog 21 #[.pointer (some p)] .returning w fun e u' w' => e = .returned (.tuple #[]) ∧ u' = .returning ∧ w' = w := by
  refine callsD_of_wpS Try.func21 rfl fun c₀ cs hu => ?_
  apply wpS_seq
  apply wpS_region
  simp [wpOpsS, go_sem, recoverD, hu, Try.ntmps21, Exit.thenS]
  refine wpS_of_wp ?_
  go_wp2
  cases c₀
  simp_all [bodyPostS, results, Try.results21]
set_option maxHeartbeats 2000000 in
theorem caught_out (b : Nat) (a x : Int) (older : List PanicEntry) (w : World) (hc : w.cell? ⟨b, 0, none⟩ = some (.int .i64 x)) (hz : w.frozen? ⟨b, 0, none⟩ = false) :
    CallsD Try.prog 21 #[.pointer (some ⟨b, 0, none⟩)] (.panicking ({ v := .iface 50 (.agg #[.int .i64 a]), recovered := false } :: older)) w fun e u' w' =>
      e = .returned (.tuple #[]) ∧ u' = .panicking ({ v := .iface 50 (.agg #[.int .i64 a]), recovered := true } :: older) ∧ ∃ o, w' = (w.setCell ⟨b, 0, none⟩ (.int .i64 2)).alloc o := by
  have hta : ∀ (w : World), (Instr.typeAssert (.iface 50 (.agg #[.int .i64 a])) 20 50 true).run Try.prog w = .ok (.tuple #[.agg #[.int .i64 a], .bool true]) w := fun _ => by simp [Instr.typeAssert, run_underlying Try.underlying50]
  have hb := cell_lt hc
  refine callsD_of_wpS Try.func21 rfl fun c₀ cs hu => ?_
  apply wpS_seq
  apply wpS_region
  simp [wpOpsS, go_sem, recoverD, hu, Try.ntmps21, Exit.thenS]
  refine wpS_of_wp ?_
  go_wp2
  refine ⟨rfl, _, rfl, .tuple #[], by simp [results, Try.results21, go_sem], rfl, rfl, _, rfl⟩

/-- the deferred call of a frame that returns -/
theorem leave_ok {fn : Func} {tmps : Array Value} {R : Ending → World → Prop} {p : Addr} {w : World} (v : Value) (hr : (results fn tmps).run Try.prog w = .ok v w) (h : R (.returned v) w) :
    Leaves Try.prog fn tmps R [{ target := .fn (.func 21) #[], args := #[.pointer (some p)] }] .returning w := by
  refine leaves_cons (f := 21) (args := #[.pointer (some p)]) (by simp) (by simp [go_sem]) ?_
  refine (caught_idle p w).mono ?_
  rintro e u' w'' ⟨rfl, rfl, rfl⟩
  simp only [settle, Leaves]
  exact ⟨v, hr, h⟩
/-- the deferred call of a frame that panics with an access outside -/
theorem leave_out {fn : Func} {tmps : Array Value} {R : Ending → World → Prop} {b : Nat} {a x : Int} {w : World} (hc : w.cell? ⟨b, 0, none⟩ = some (.int .i64 x)) (hz : w.frozen? ⟨b, 0, none⟩ = false) (v : Value)
    (hr : ∀ o, (results fn tmps).run Try.prog ((w.setCell ⟨b, 0, none⟩ (.int .i64 2)).alloc o) = .ok v ((w.setCell ⟨b, 0, none⟩ (.int .i64 2)).alloc o))
    (h : ∀ o, R (.returned v) ((w.setCell ⟨b, 0, none⟩ (.int .i64 2)).alloc o)) :
    Leaves Try.prog fn tmps R [{ target := .fn (.func 21) #[], args := #[.pointer (some ⟨b, 0, none⟩)] }] (.panicking [{ v := .iface 50 (.agg #[.int .i64 a]), recovered := false }]) w := by
  refine leaves_cons (f := 21) (args := #[.pointer (some ⟨b, 0, none⟩)]) (by simp) (by simp [go_sem]) ?_
  refine (caught_out b a x [] w hc hz).mono ?_
  rintro e u' w'' ⟨rfl, rfl, o, rfl⟩
  simp only [settle, Leaves, List.dropWhile]
  exact ⟨v, hr o, h o⟩

/-- a part of a slice -/
theorem rd_part {w : World} {A : Option Addr} {n : Nat} {xs : List Value} (h : Rd w A n 1 xs) (a k : Nat) (hk : a + k ≤ n) : Rd w (A.map (·.add a)) k 1 ((xs.drop a).take k) := by
  have hl := h.1
  refine ⟨by simp; omega, fun h0 => ?_⟩
  obtain ⟨b, o, rfl, hc⟩ := h.2 (by omega)
  refine ⟨b, o + a, by simp [addr_add], fun j u hu => ?_⟩
  rw [List.getElem?_take] at hu
  split at hu
  · rw [List.getElem?_drop] at hu
    have := hc (a + j) u hu
    rwa [← Nat.add_assoc] at this
  · cases hu
theorem span_in (A : Option Addr) (n c a k : Nat) (xs : List Value) (w : World) (hx : Rd w A n 1 xs) (hk : a + k ≤ n) (hn : n ≤ 1000000) (hcp : n ≤ c) :
    Calls Try.prog 22 #[.slice A n c, .int .i64 (a : Int), .int .i64 (k : Int)] w fun e w' => (∃ A', e = .returned (.slice A' k (c - a)) ∧ Rd w A' k 1 ((xs.drop a).take k)) ∧ w = w' := by
  have h1 : decide ((a : Int) < 0) = false := by simp
  have h2 : decide ((n : Int) < a) = false := by simp; omega
  have h2' : decide (n < a) = false := by simp; omega
  have h3 : decide ((n : Int) - a < k) = false := by simp; omega
  have Hx := Lib.hid hx
  clear hx
  go_enter Try.func22, Try.ntmps22
  go_wp2
  · have hx := Hx.out
    have e : c = a := by assumption
    subst e
    go_ret
    refine ⟨⟨A, by simp, ?_⟩, rfl⟩
    obtain rfl : k = 0 := by omega
    refine ⟨by simp, fun h0 => absurd h0 (by omega)⟩
  · go_ret
    exact ⟨⟨_, rfl, rd_part Hx.out a k hk⟩, rfl⟩
theorem span_out (A : Option Addr) (n c : Nat) (a k : Int) (w : World) (h : ¬ (0 ≤ a ∧ a ≤ n ∧ k ≤ n - a)) (hn : n ≤ 1000000) :
    Calls Try.prog 22 #[.slice A n c, .int .i64 a, .int .i64 k] w fun e w' => Out a e ∧ w = w' := by
  by_cases h0 : a < 0
  · have h1 : decide (a < 0) = true := by simpa using h0
    clear h h0
    go_enter Try.func22, Try.ntmps22
    go_wp2
    simp [bodyPost, Out]
  · obtain ⟨b, rfl⟩ : ∃ b : Nat, a = (b : Int) := ⟨a.toNat, by omega⟩
    have h1 : decide ((b : Int) < 0) = false := by simp
    by_cases hb : n < b
    · have h2 : decide ((n : Int) < b) = true := by simp; omega
      have h2' : decide (n < b) = true := by simp; omega
      clear h h0 hb
      go_enter Try.func22, Try.ntmps22
      go_wp2
      simp [bodyPost, Out]
    · have h2 : decide ((n : Int) < b) = false := by simp; omega
      have h2' : decide (n < b) = false := by simp; omega
      have h3 : decide ((n : Int) - b < k) = true := by simp; omega
      clear h h0
      go_enter Try.func22, Try.ntmps22
      go_wp2
      simp [bodyPost, Out]
theorem outside_any (A : Option Addr) (n c : Nat) (a k : Int) (w : World) (hn : n ≤ 1000000) :
    Calls Try.prog 24 #[.slice A n c, .int .i64 a, .int .i64 k] w fun e w' => e = .returned (.bool (!decide (0 ≤ a ∧ a ≤ n ∧ k ≤ n - a))) ∧ w = w' := by
  by_cases h0 : a < 0
  · have h1 : decide (a < 0) = true := by simpa using h0
    have hd : decide (0 ≤ a ∧ a ≤ n ∧ k ≤ n - a) = false := by simp; omega
    rw [hd]
    clear hd h0
    go_enter Try.func24, Try.ntmps24
    go_wp2
    go_ret
    exact ⟨rfl, rfl⟩
  · obtain ⟨b, rfl⟩ : ∃ b : Nat, a = (b : Int) := ⟨a.toNat, by omega⟩
    have h1 : decide ((b : Int) < 0) = false := by simp
    by_cases hb : n < b
    · have h2 : decide ((n : Int) < b) = true := by simp; omega
      have h2' : decide (n < b) = true := by simp; omega
      have hd : decide (0 ≤ (b : Int) ∧ (b : Int) ≤ n ∧ k ≤ n - b) = false := by simp; omega
      rw [hd]
      clear h0 hb hd
      go_enter Try.func24, Try.ntmps24
      go_wp2
      go_ret
      exact ⟨rfl, rfl⟩
    · have h2 : decide ((n : Int) < b) = false := by simp; omega
      have h2' : decide (n < b) = false := by simp; omega
      by_cases hk : (n : Int) - b < k
      · have h3 : decide ((n : Int) - b < k) = true := by simp; omega
        have hd : decide (0 ≤ (b : Int) ∧ (b : Int) ≤ n ∧ k ≤ n - b) = false := by simp; omega
        rw [hd]
        clear h0 hd hk
        go_enter Try.func24, Try.ntmps24
        go_wp2
        go_ret
        exact ⟨rfl, rfl⟩
      · have h3 : decide ((n : Int) - b < k) = false := by simp; omega
        have hd : decide (0 ≤ (b : Int) ∧ (b : Int) ≤ n ∧ k ≤ n - b) = true := by simp; omega
        rw [hd]
        clear h0 hd hk
        go_enter Try.func24, Try.ntmps24
        go_wp2
        go_ret
        exact ⟨rfl, rfl⟩
end Go.Proofs.Ytodoeckikkeacaa
