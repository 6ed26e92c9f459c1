/- An argument that is a struct of four integers. Plain facts, no walk. -/
import Derived.Test.YtamghjilcfeheaaOpen
import Derived.OpenShut
namespace Go.Proofs.Ytamghjilcfeheaa
open Go.RowKit Go.Draw Go.WideShapes Go.ChangeShapes

theorem cell_int {P : Program} {w : World} {r : Reach} {b : Nat} {t : TypeId} {k : IntKind} {v : Value} (ht : P.underlying t = some (.int k)) (h : Cell.okWide P w r b t v) : ∃ n, v = .int k n := by
  unfold Cell.okWide at h
  rw [ht] at h
  simp only [Cell.ok, ht] at h
  cases v <;> simp_all
theorem arg_int4 {P : Program} {w : World} {r : Reach} {b : Nat} {t u : TypeId} {fs : Array Field} {k : IntKind} {v : Value} (hs : P.underlying t = some (.struct fs)) (hct : P.cellTypes P.depth t = some [u, u, u, u]) (hu : P.underlying u = some (.int k)) (hsz : P.cellsOf t = 4)
    (hv : Value.okWide P w r b t v) : ∃ x y z q, v = .agg #[.int k x, .int k y, .int k z, .int k q] := by
  unfold Value.okWide at hv
  rw [hs] at hv
  simp only at hv
  obtain ⟨cs, rfl, hc, ts, hts, _, hall⟩ := hv
  rw [hct] at hts
  injection hts with hts
  subst hts
  rw [hsz] at hc
  have get : ∀ i, i < 4 → ∃ n, cs[i]? = some (.int k n) := fun i hi => by
    have hg : cs[i]? = some (cs[i]'(by omega)) := Array.getElem?_eq_getElem (by omega)
    obtain ⟨u', hu', hok⟩ := hall i _ hg
    have e : u' = u := by
      have h4 : i % [u, u, u, u].length = i := Nat.mod_eq_of_lt (by simpa using hi)
      rw [h4] at hu'
      have hm : u' ∈ [u, u, u, u] := List.mem_of_getElem? hu'
      simpa using hm
    subst e
    obtain ⟨n, hn⟩ := cell_int hu hok
    exact ⟨n, by rw [hg, hn]⟩
  obtain ⟨x, hx⟩ := get 0 (by omega)
  obtain ⟨y, hy⟩ := get 1 (by omega)
  obtain ⟨z, hz⟩ := get 2 (by omega)
  obtain ⟨q, hq⟩ := get 3 (by omega)
  refine ⟨x, y, z, q, ?_⟩
  congr 1
  apply Array.ext'
  apply List.ext_getElem?
  intro i
  have hl : cs.toList.length = 4 := by simpa using hc
  match i with
  | 0 => simpa using hx
  | 1 => simpa using hy
  | 2 => simpa using hz
  | 3 => simpa using hq
  | i + 4 =>
    rw [List.getElem?_eq_none (by omega)]
    simp
end Go.Proofs.Ytamghjilcfeheaa
