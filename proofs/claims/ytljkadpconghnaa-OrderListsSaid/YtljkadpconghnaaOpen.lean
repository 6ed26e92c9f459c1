/-
  What a law's arguments read as, told in the walks' words (Rd): slices of integers, of bools. Any program; nothing here names one.
-/
import Derived.Test.YtljkadpconghnaaMem
import Derived.Test.YtljkadpconghnaaRow
import Derived.OpenShut
import Derived.Deep.Grids
import Derived.Lib.SmallJoins
namespace Go.Draw
open Go.RowKit Go.WideShapes Go.ChangeShapes Go.ChangeAt
section
variable {H : Type} {enc : TypeId × Value → H} {P : Program} {w : World} {held : Bool}

theorem open_rd_ints {t e : TypeId} {k : IntKind} {fuel : Nat} {v : Value} {x : DataW H × List MemPlace} (ht : P.underlying t = some (.slice e)) (he : P.underlying e = some (.int k)) (hc : P.cellsOf e = 1)
    (h : DataW.trod enc P w 0 (fun _ => true) held fuel t [v] = some x) :
    ∃ (A : Option Addr) (n c : Nat) (zs : List Int), v = .slice A n c ∧ Rd w A n 1 (zs.map (Value.int k)) ∧ n ≤ 9223372036854775807 ∧ ∀ z ∈ zs, (Lit.int k z).wf = true := by
  rcases open_ints ht he hc h with ⟨hcs, _⟩ | ⟨a, len, cap, zs, hcs, _, hl, hm, hz, _, hcell, hw⟩
  · simp only [List.cons.injEq, and_true] at hcs
    exact ⟨none, 0, 0, [], hcs, Rd.nil_ _ _ _, by omega, by simp⟩
  · simp only [List.cons.injEq, and_true] at hcs
    simp only [if_true] at hz
    refine ⟨some a, len, cap, zs.take len, hcs, rd_of_cells (by simp; omega) fun i u hu => ?_, by unfold maxLen at hm; omega, fun z hz => hw z (List.mem_of_mem_take hz)⟩
    simp only [List.getElem?_map, List.getElem?_take, Option.map_eq_some_iff] at hu
    obtain ⟨z, h1, rfl⟩ := hu
    split at h1
    · have h2 := (List.getElem?_eq_some_iff.1 h1).1
      have h3 := hcell i h2
      rw [List.getD_eq_getElem?_getD, h1] at h3
      exact h3
    · cases h1

theorem open_rd_ints_cap {t e : TypeId} {k : IntKind} {fuel : Nat} {v : Value} {x : DataW H × List MemPlace} (ht : P.underlying t = some (.slice e)) (he : P.underlying e = some (.int k)) (hc : P.cellsOf e = 1)
    (h : DataW.trod enc P w 0 (fun _ => true) held fuel t [v] = some x) :
    ∃ (A : Option Addr) (n c : Nat) (zs : List Int), v = .slice A n c ∧ Rd w A n 1 (zs.map (Value.int k)) ∧ n ≤ 9223372036854775807 ∧ n ≤ c ∧ ∀ z ∈ zs, (Lit.int k z).wf = true := by
  rcases open_ints ht he hc h with ⟨hcs, _⟩ | ⟨a, len, cap, zs, hcs, _, hl, hm, hz, _, hcell, hw⟩
  · simp only [List.cons.injEq, and_true] at hcs
    exact ⟨none, 0, 0, [], hcs, Rd.nil_ _ _ _, by omega, Nat.le_refl _, by simp⟩
  · simp only [List.cons.injEq, and_true] at hcs
    simp only [if_true] at hz
    refine ⟨some a, len, cap, zs.take len, hcs, rd_of_cells (by simp; omega) fun i u hu => ?_, by unfold maxLen at hm; omega, hl, fun z hz => hw z (List.mem_of_mem_take hz)⟩
    simp only [List.getElem?_map, List.getElem?_take, Option.map_eq_some_iff] at hu
    obtain ⟨z, h1, rfl⟩ := hu
    split at h1
    · have h2 := (List.getElem?_eq_some_iff.1 h1).1
      have h3 := hcell i h2
      rw [List.getD_eq_getElem?_getD, h1] at h3
      exact h3
    · cases h1

theorem open_rd_bools {t e : TypeId} {fuel : Nat} {v : Value} {x : DataW H × List MemPlace} (ht : P.underlying t = some (.slice e)) (he : P.underlying e = some .bool) (hc : P.cellsOf e = 1)
    (h : DataW.trod enc P w 0 (fun _ => true) held fuel t [v] = some x) :
    ∃ (A : Option Addr) (n c : Nat) (us : List Bool), v = .slice A n c ∧ Rd w A n 1 (us.map Value.bool) ∧ n ≤ 9223372036854775807 := by
  rcases Go.Deep.open_bools ht he hc h with ⟨hcs, _⟩ | ⟨a, len, cap, B, hcs, _, hl, hm, _, hcell⟩
  · simp only [List.cons.injEq, and_true] at hcs
    exact ⟨none, 0, 0, [], hcs, Rd.nil_ _ _ _, by omega⟩
  · simp only [List.cons.injEq, and_true] at hcs
    refine ⟨some a, len, cap, (List.range len).map B, hcs, rd_of_cells (by simp) fun i u hu => ?_, by unfold maxLen at hm; omega⟩
    simp only [List.map_map, List.getElem?_map, Option.map_eq_some_iff] at hu
    obtain ⟨j, h1, rfl⟩ := hu
    obtain ⟨hlt, rfl⟩ := List.getElem?_eq_some_iff.1 h1
    simp only [List.length_range] at hlt
    simp only [List.getElem_range, Function.comp]
    exact hcell i (by omega)

theorem trod_of {t : TypeId} {v : Value} {d : DataW H} {p : List MemPlace} (hc : v.cells.toList = [v]) (h : DataW.Trod enc P w 0 (fun _ => true) held t v d p) : ∃ fuel, DataW.trod enc P w 0 (fun _ => true) held fuel t [v] = some (d, p) := by
  obtain ⟨fuel, hf⟩ := h
  rw [hc] at hf
  exact ⟨fuel, hf⟩
/-- an argument that is a slice of integers -/
theorem arg_ints {t e : TypeId} {k : IntKind} {v : Value} {r : Reach} {b : Nat} {d : DataW H} {p : List MemPlace} (ht : P.underlying t = some (.slice e)) (he : P.underlying e = some (.int k)) (hc : P.cellsOf e = 1)
    (hv : Value.okWide P w r b t v) (h : DataW.Trod enc P w 0 (fun _ => true) held t v d p) :
    ∃ (A : Option Addr) (n c : Nat) (zs : List Int), v = .slice A n c ∧ Rd w A n 1 (zs.map (Value.int k)) ∧ n ≤ 9223372036854775807 ∧ ∀ z ∈ zs, (Lit.int k z).wf = true := by
  obtain ⟨a0, len, cap, rfl⟩ := okWide_slice ht hv
  obtain ⟨fuel, hf⟩ := trod_of rfl h
  exact open_rd_ints ht he hc hf
/-- an argument that is a slice of integers -/
theorem arg_ints_cap {t e : TypeId} {k : IntKind} {v : Value} {r : Reach} {b : Nat} {d : DataW H} {p : List MemPlace} (ht : P.underlying t = some (.slice e)) (he : P.underlying e = some (.int k)) (hc : P.cellsOf e = 1)
    (hv : Value.okWide P w r b t v) (h : DataW.Trod enc P w 0 (fun _ => true) held t v d p) :
    ∃ (A : Option Addr) (n c : Nat) (zs : List Int), v = .slice A n c ∧ Rd w A n 1 (zs.map (Value.int k)) ∧ n ≤ 9223372036854775807 ∧ n ≤ c ∧ ∀ z ∈ zs, (Lit.int k z).wf = true := by
  obtain ⟨a0, len, cap, rfl⟩ := okWide_slice ht hv
  obtain ⟨fuel, hf⟩ := trod_of rfl h
  exact open_rd_ints_cap ht he hc hf
/-- an argument that is an integer -/
theorem arg_int {t : TypeId} {k : IntKind} {v : Value} {r : Reach} {b : Nat} (ht : P.underlying t = some (.int k)) (hv : Value.okWide P w r b t v) : ∃ n, v = .int k n ∧ k.has n := by
  obtain ⟨n, rfl⟩ := okWide_int ht hv
  refine ⟨n, rfl, ?_⟩
  unfold Value.okWide at hv
  rw [ht] at hv
  unfold Cell.okWide at hv
  rw [ht] at hv
  unfold Cell.ok at hv
  rw [ht] at hv
  exact hv.2
end
end Go.Draw
