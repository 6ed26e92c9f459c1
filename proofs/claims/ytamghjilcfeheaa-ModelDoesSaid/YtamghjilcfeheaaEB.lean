/- An argument that is a graph. Plain facts, no walk. -/
import Derived.Test.YtamghjilcfeheaaMA
import Derived.Test.YtamghjilcfeheaaOpen
import Derived.Deep.SlicePairs
import Derived.Deep.Strs
namespace Go.Proofs.Ytamghjilcfeheaa
open Go.RowKit Go.Draw Go.WideShapes Go.ChangeShapes Go.ChangeAt

theorem vals_get : ∀ (l : List (Value × Value)) (j : Nat) (u : Value), (vals l)[j]? = some u → ∃ i p, l[i]? = some p ∧ ((j = i * 2 ∧ u = p.1) ∨ (j = i * 2 + 1 ∧ u = p.2))
  | [], j, u, h => by simp [vals] at h
  | p :: l, 0, u, h => by simp [vals] at h; exact ⟨0, p, rfl, .inl ⟨rfl, h.symm⟩⟩
  | p :: l, 1, u, h => by simp [vals] at h; exact ⟨0, p, rfl, .inr ⟨rfl, h.symm⟩⟩
  | p :: l, j + 2, u, h => by
    simp only [vals, List.getElem?_cons_succ] at h
    obtain ⟨i, q, h1, h2⟩ := vals_get l j u h
    refine ⟨i + 1, q, by simpa using h1, ?_⟩
    rcases h2 with ⟨h2, h3⟩ | ⟨h2, h3⟩
    · exact .inl ⟨by omega, h3⟩
    · exact .inr ⟨by omega, h3⟩
theorem rd_pairs {w : World} {a : Addr} {ps : List (Value × Value)} (h : ∀ i p, ps[i]? = some p → w.cell? (a.add (i * 2)) = some p.1 ∧ w.cell? (a.add (i * 2 + 1)) = some p.2) : Rd w (some a) ps.length 2 (vals ps) := by
  refine ⟨vals_len ps, fun h0 => ?_⟩
  have hx : ps[0]? = some (ps[0]'h0) := List.getElem?_eq_getElem h0
  have h1 := (h 0 _ hx).1
  have hs : a.spot = none := by
    simp only [Addr.add, Nat.zero_mul, if_true, World.cell?] at h1
    cases hsp : a.spot with
    | none => rfl
    | some s =>
      rw [hsp] at h1
      split at h1 <;> simp at h1
  obtain ⟨b, o, sp⟩ := a
  simp only at hs
  subst hs
  refine ⟨b, o, rfl, fun j u hu => ?_⟩
  obtain ⟨i, p, hp, h2⟩ := vals_get ps j u hu
  have h3 := h i p hp
  rw [addr_add, addr_add] at h3
  rcases h2 with ⟨rfl, rfl⟩ | ⟨rfl, rfl⟩
  · exact h3.1
  · exact h3.2
section
variable {H : Type} {enc : TypeId × Value → H} {w : World} {held : Bool}
theorem open_nodes {fuel : Nat} {v : Value} {x : DataW H × List MemPlace} (h : DataW.trod enc Try.prog w 0 (fun _ => true) held fuel 23 [v] = some x) :
    ∃ (A : Option Addr) (a : Nat) (ns : List (List Int × List Int)) (ps : List (Value × Value)), v = .slice A ns.length a ∧ Rd w A ns.length 2 (vals ps) ∧ ns.length ≤ 9223372036854775807 ∧ ∀ (i : Nat) (p : Value × Value) (x : List Int × List Int), ps[i]? = some p → ns[i]? = some x → NdRd w p x := by
  rcases Go.Deep.open_slice_pairs Try.underlying23 Try.underlying49 (by kernel_rfl) rfl rfl (by kernel_rfl) (by kernel_rfl) h with ⟨hcs, _⟩ | ⟨a, len, cap, m, n, V0, V1, D0, D1, P0, P1, hcs, _, hl, hm, hmm, _, hx⟩
  · simp only [List.cons.injEq, and_true] at hcs
    exact ⟨none, 0, [], [], hcs, Rd.nil_ _ _ _, by simp, fun i p x hp => by simp at hp⟩
  · simp only [List.cons.injEq, and_true] at hcs
    simp only [if_true] at hmm
    have each : ∀ i, i < len → ∃ y : List Int × List Int, NdRd w (V0 i, V1 i) y := fun i hi => by
      obtain ⟨_, _, h2, h3⟩ := hx i (by omega)
      obtain ⟨R, n1, c1, zs, hv, hr, _, _⟩ := open_rd_ints Try.underlying22 Try.underlying3 (by kernel_rfl) h2
      obtain ⟨D, n2, c2, ys, hv', hd, _, _⟩ := open_rd_ints Try.underlying47 Try.underlying31 (by kernel_rfl) h3
      have e1 : zs.length = n1 := by have := hr.1; simpa using this
      have e2 : ys.length = n2 := by have := hd.1; simpa using this
      subst e1 e2
      exact ⟨(zs, ys), R, c1, D, c2, by rw [hv, hv'], hr, hd⟩
    obtain ⟨f, hf⟩ := Go.Deep.choose_lt each
    refine ⟨some a, cap, (List.range len).map f, (List.range len).map fun i => (V0 i, V1 i), by simpa using hcs, ?_, by simp; unfold maxLen at hm; omega, fun i p y hp hy => ?_⟩
    · have := rd_pairs (w := w) (a := a) (ps := (List.range len).map fun i => (V0 i, V1 i)) (fun i p hp => by
        simp only [List.getElem?_map, Option.map_eq_some_iff] at hp
        obtain ⟨j, hj, rfl⟩ := hp
        obtain ⟨hlt, rfl⟩ := List.getElem?_eq_some_iff.1 hj
        simp only [List.length_range] at hlt
        simp only [List.getElem_range]
        exact ⟨(hx i (by omega)).1, (hx i (by omega)).2.1⟩)
      simpa using this
    · simp only [List.getElem?_map, Option.map_eq_some_iff] at hp hy
      obtain ⟨j, hj, rfl⟩ := hp
      obtain ⟨j', hj', rfl⟩ := hy
      rw [hj] at hj'
      injection hj' with hj'
      subst hj'
      obtain ⟨hlt, rfl⟩ := List.getElem?_eq_some_iff.1 hj
      simp only [List.length_range] at hlt
      simp only [List.getElem_range]
      exact hf i hlt
/-- an argument that is a graph -/
theorem arg_graph {v : Value} {r : Reach} {b : Nat} {d : DataW H} {p : List MemPlace} (hv : Value.okWide Try.prog w r b 26 v) (h : DataW.Trod enc Try.prog w 0 (fun _ => true) held 26 v d p) : ∃ g : Gr, GRd w v g ∧ g.ns.length ≤ 9223372036854775807 := by
  obtain ⟨cs, rfl, hc⟩ := okWide_struct Try.underlying26 hv
  obtain ⟨fuel, hf⟩ := h
  obtain ⟨y0, y1, y2, n, _, hl, h0, h1, h2⟩ := Go.Deep.trod_struct3 Try.underlying26 hf
  have h3 : Try.prog.cellsOf 26 = 3 := by kernel_rfl
  have c23 : Try.prog.cellsOf 23 = 1 := by kernel_rfl
  have c24 : Try.prog.cellsOf 24 = 1 := by kernel_rfl
  have c22 : Try.prog.cellsOf 22 = 1 := by kernel_rfl
  rw [h3] at hc
  obtain ⟨cl⟩ := cs
  match cl, hc with
  | [c0, c1, c2], _ =>
    have e0 : DataW.trod enc Try.prog w 0 (fun _ => true) held n 23 [c0] = some y0 := by simpa [Value.cells, c23] using h0
    have e1 : DataW.trod enc Try.prog w 0 (fun _ => true) held n 24 [c1] = some y1 := by simpa [Value.cells, c24] using h1
    have e2 : DataW.trod enc Try.prog w 0 (fun _ => true) held n 22 [c2] = some y2 := by simpa [Value.cells, c22] using h2
    obtain ⟨A, a, ns, ps, rfl, q1, q2, q3⟩ := open_nodes e0
    obtain ⟨B, n1, b', us, rfl, k1, _⟩ := open_rd_bools Try.underlying24 Try.underlying4 (by kernel_rfl) e1
    obtain ⟨C, n2, c', rs, rfl, k2, _, _⟩ := open_rd_ints Try.underlying22 Try.underlying3 (by kernel_rfl) e2
    have l1 : us.length = n1 := by have := k1.1; simpa using this
    have l2 : rs.length = n2 := by have := k2.1; simpa using this
    subst l1 l2
    exact ⟨⟨ns, us, rs⟩, ⟨A, a, B, b', C, c', ps, rfl, q1, k1, k2, q3⟩, q2⟩
end
end Go.Proofs.Ytamghjilcfeheaa
