/- Nodes of a graph that is read. Plain facts, no walk. -/
import Derived.Test.YtamghjilcfeheaaI
namespace Go.Proofs.Ytamghjilcfeheaa
open Go.RowKit Go.Draw

theorem GRd.node {W : World} {A0 B0 C0 : Option Addr} {n0 n1 n2 a0 b0 c0 : Nat} {g : Gr} {m : Nat} {x : List Int × List Int} (h : GRd W (.agg #[.slice A0 n0 a0, .slice B0 n1 b0, .slice C0 n2 c0]) g) (hx : g.ns[m]? = some x) :
    ∃ ba oa R c1 D c2, A0 = some ⟨ba, oa, none⟩ ∧ W.cell? ⟨ba, oa + m * 2, none⟩ = some (.slice R x.1.length c1) ∧ W.cell? ⟨ba, oa + m * 2 + 1, none⟩ = some (.slice D x.2.length c2) ∧ Rd W R x.1.length 1 (ints x.1) ∧ Rd W D x.2.length 1 (words x.2) ∧ ba < W.heap.size := by
  obtain ⟨A, a, B, b, C, c, ps, hv, h1, h2, h3, h4⟩ := h
  simp only [Value.agg.injEq, Array.mk.injEq, List.cons.injEq, Value.slice.injEq, and_true] at hv
  obtain ⟨⟨rfl, rfl, rfl⟩, _⟩ := hv
  have hm := (List.getElem?_eq_some_iff.1 hx).1
  obtain ⟨ba, oa, rfl, hc⟩ := h1.2 (by omega)
  have hpl : ps.length = g.ns.length := by have := h1.1; rw [vals_len] at this; omega
  obtain ⟨p, hp0⟩ : ∃ p, ps[m]? = some p := ⟨_, List.getElem?_eq_getElem (by omega)⟩
  obtain ⟨R, c1, D, c2, rfl, hR, hD⟩ := h4 m p x hp0 hx
  have q0 := hc _ _ (vals_at ps m _ hp0).1
  have q1 := hc _ _ (vals_at ps m _ hp0).2
  rw [← Nat.add_assoc] at q1
  exact ⟨ba, oa, R, c1, D, c2, rfl, q0, q1, hR, hD, cell_lt q0⟩
theorem node36_to (v : Value) (g : Gr) (i : Nat) (r : Int) (w : World) (hg : GRd w v g) (hlr : g.rs.length = 32) (hi : i < 32) (hr : g.rs[i]? = some r) :
    Calls Try.prog 36 #[v, .int .i64 ((i : Int) + 1)] w fun e w' => e = .returned (.int .i64 r) ∧ Ext w w' := by
  have := node36_any v g ((i : Int) + 1) w hg hlr (by omega)
  rwa [hNd_in g i r hr] at this

theorem free_none (v : Value) (g : Gr) (w : World) (hg : GRd w v g) (hlu : g.us.length = 32) (hf : ¬ freeT g.us < 32) :
    Calls Try.prog 34 #[v] w fun e w' => e = .returned (.int .i64 0) ∧ Ext w w' := by
  have := free_any v g w hg (by omega)
  rwa [show freeV g.us = 0 by unfold freeV; rw [if_neg (by omega)]] at this
theorem free_some (v : Value) (g : Gr) (f : Nat) (w : World) (hg : GRd w v g) (hlu : g.us.length = 32) (hf : f < 32) (he : freeT g.us = f) :
    Calls Try.prog 34 #[v] w fun e w' => e = .returned (.int .i64 ((f : Int) + 1)) ∧ Ext w w' := by
  have := free_any v g w hg (by omega)
  rwa [show freeV g.us = (f : Int) + 1 by unfold freeV; rw [if_pos (by omega), he]] at this
end Go.Proofs.Ytamghjilcfeheaa
