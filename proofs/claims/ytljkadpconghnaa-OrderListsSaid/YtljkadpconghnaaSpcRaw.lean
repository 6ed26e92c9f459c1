/- An argument that is a list of lists of increments. Plain facts, no walk. -/
import Derived.Test.YtljkadpconghnaaSpcR
import Derived.Test.YtljkadpconghnaaOpen
import Derived.Deep.Strs
import Derived.SizedLaws
namespace Go.Proofs.Ytljkadpconghnaa
open Go.RowKit Go.Draw Go.WideShapes Go.ChangeShapes Go.ChangeAt

instance : Inhabited Inc := ⟨⟨0, 0, 0, 0, 0⟩⟩
theorem flatI_get : ∀ (l : List Inc) (j : Nat) (u : Value), (flatI l)[j]? = some u → ∃ (i : Nat) (y : Inc) (k : Nat), l[i]? = some y ∧ j = i * 5 + k ∧ k < 5 ∧ (flatI [y])[k]? = some u
  | [], j, u, h => by simp [flatI] at h
  | p :: l, 0, u, h => ⟨0, p, 0, rfl, rfl, by omega, h⟩
  | p :: l, 1, u, h => ⟨0, p, 1, rfl, rfl, by omega, h⟩
  | p :: l, 2, u, h => ⟨0, p, 2, rfl, rfl, by omega, h⟩
  | p :: l, 3, u, h => ⟨0, p, 3, rfl, rfl, by omega, h⟩
  | p :: l, 4, u, h => ⟨0, p, 4, rfl, rfl, by omega, h⟩
  | p :: l, j + 5, u, h => by
    simp only [flatI, List.getElem?_cons_succ] at h
    obtain ⟨i, y, k, h1, h2, h3, h4⟩ := flatI_get l j u h
    exact ⟨i + 1, y, k, by simpa using h1, by omega, h3, h4⟩
section
variable {H : Type} {enc : TypeId × Value → H} {w : World} {held : Bool}
theorem wAll_mem {P : Program} {e : TypeId} : ∀ {l : List (DataW H)} {d : DataW H}, d ∈ l → ∀ m ∈ d.weights P e, m ∈ DataW.weightsAll P e l
  | [], d, h, m, _ => by simp at h
  | x :: l, d, h, m, hm => by
    simp only [DataW.weightsAll, List.mem_append]
    rcases List.mem_cons.1 h with rfl | h
    · exact .inl hm
    · exact .inr (wAll_mem h m hm)
set_option maxRecDepth 100000 in
theorem open_inc {fuel : Nat} {cs : List Value} {x : DataW H × List MemPlace} (h : DataW.trod enc Try.prog w 0 (fun _ => true) held fuel 24 cs = some x) : ∃ i : Inc, cs = flatI [i] := by
  obtain ⟨xs, n, _, _, hl, hlen, hf⟩ := DataW.trod_struct Try.underlying24 h
  have c5 : Try.prog.cellsOf 24 = 5 := by kernel_rfl
  have c3 : Try.prog.cellsOf 3 = 1 := by kernel_rfl
  rw [c5] at hl
  match cs, hl, xs, hlen with
  | [v0, v1, v2, v3, v4], _, [y0, y1, y2, y3, y4], _ =>
    have g0 : DataW.trod enc Try.prog w 0 (fun _ => true) held n 3 [v0] = some y0 := by have := hf 0 _ rfl; simpa [c3] using this
    have g1 : DataW.trod enc Try.prog w 0 (fun _ => true) held n 3 [v1] = some y1 := by have := hf 1 _ rfl; simpa [c3] using this
    have g2 : DataW.trod enc Try.prog w 0 (fun _ => true) held n 3 [v2] = some y2 := by have := hf 2 _ rfl; simpa [c3] using this
    have g3 : DataW.trod enc Try.prog w 0 (fun _ => true) held n 3 [v3] = some y3 := by have := hf 3 _ rfl; simpa [c3] using this
    have g4 : DataW.trod enc Try.prog w 0 (fun _ => true) held n 3 [v4] = some y4 := by have := hf 4 _ rfl; simpa [c3] using this
    obtain ⟨z0, e0, _⟩ := DataW.trod_int Try.underlying3 g0
    obtain ⟨z1, e1, _⟩ := DataW.trod_int Try.underlying3 g1
    obtain ⟨z2, e2, _⟩ := DataW.trod_int Try.underlying3 g2
    obtain ⟨z3, e3, _⟩ := DataW.trod_int Try.underlying3 g3
    obtain ⟨z4, e4, _⟩ := DataW.trod_int Try.underlying3 g4
    simp only [List.cons.injEq, and_true] at e0 e1 e2 e3 e4
    subst e0 e1 e2 e3 e4
    exact ⟨⟨z0, z1, z2, z3, z4⟩, rfl⟩
set_option maxRecDepth 100000 in
theorem open_incs {fuel : Nat} {v : Value} {x : DataW H × List MemPlace} (h : DataW.trod enc Try.prog w 0 (fun _ => true) held fuel 25 [v] = some x) (hw : ∀ m ∈ x.1.weights Try.prog 25, m ≤ reachBytes) :
    ∃ (A : Option Addr) (c : Nat) (q : List Inc), v = .slice A q.length c ∧ Rd w A q.length 5 (flatI q) ∧ q.length ≤ 1000000000000000 := by
  have c5 : Try.prog.cellsOf 24 = 5 := by kernel_rfl
  have b40 : Try.prog.bytesOf 24 = 40 := by kernel_rfl
  rcases Go.Deep.open_slice Try.underlying25 h with ⟨hcs, _⟩ | ⟨a, len, cap, m, n, D, Pl, hcs, _, hl, hm, hmm, hx, hel⟩
  · simp only [List.cons.injEq, and_true] at hcs
    exact ⟨none, 0, [], hcs, Rd.nil_ _ _ _, Nat.zero_le _⟩
  · simp only [List.cons.injEq, and_true] at hcs
    simp only [if_true] at hmm
    have each : ∀ i, i < len → ∃ y : Inc, ∀ k u, k < 5 → (flatI [y])[k]? = some u → w.cell? (a.add (i * 5 + k)) = some u := fun i hi => by
      obtain ⟨cs', h1, h2⟩ := hel i (by omega)
      obtain ⟨y, rfl⟩ := open_inc h2
      obtain ⟨_, _, hcell⟩ := World.cells?_some h1
      refine ⟨y, fun k u hk hu => ?_⟩
      have e := hcell k (by rw [c5]; exact hk)
      rw [Go.Deep.add_add, c5] at e
      rw [e]
      exact hu
    obtain ⟨f, hf⟩ := Go.Deep.choose_lt each
    have hr : Rd w (some a) (len * 5) 1 (flatI ((List.range len).map f)) := rd_of_cells (by rw [flatI_len]; simp) fun j u hu => by
      obtain ⟨i, y, k, h1, rfl, h3, h4⟩ := flatI_get _ j u hu
      rw [List.getElem?_map, Option.map_eq_some_iff] at h1
      obtain ⟨i', hi', rfl⟩ := h1
      obtain ⟨hlt, rfl⟩ := List.getElem?_eq_some_iff.1 hi'
      simp only [List.length_range] at hlt
      simp only [List.getElem_range] at h4
      exact hf i hlt k u h3 h4
    have hle : len * 40 ≤ reachBytes := by
      have := hw ((((List.range len).map D).length + ((List.range (m - len)).map fun j => D (len + j)).length) * 40) (by
        rw [hx]
        simp only [DataW.weights, Try.underlying25, b40]
        exact List.mem_cons_self)
      simp only [List.length_map, List.length_range] at this
      omega
    refine ⟨some a, cap, (List.range len).map f, by simpa using hcs, ?_, ?_⟩
    · refine ⟨by rw [flatI_len], fun h0 => ?_⟩
      obtain ⟨b, o, e, hc⟩ := hr.2 (by simp at h0; omega)
      exact ⟨b, o, e, hc⟩
    · have : reachBytes = 0x7ffffffff000 := rfl
      simp
      omega
set_option maxRecDepth 100000 in
/-- an argument that is a list of lists of increments -/
theorem arg_raw {v : Value} {r : Reach} {b : Nat} {d : DataW H} {p : List MemPlace} (hv : Value.okWide Try.prog w r b 26 v) (h : DataW.Trod enc Try.prog w 0 (fun _ => true) held 26 v d p) (hw : ∀ m ∈ d.weights Try.prog 26, m ≤ reachBytes) :
    ∃ (A : Option Addr) (c : Nat) (Q : List (List Inc)), v = .slice A Q.length c ∧ BRd w A Q ∧ Q.length ≤ 1000000000000000000 ∧ ∀ q ∈ Q, q.length ≤ 1000000000000000 := by
  have c1 : Try.prog.cellsOf 25 = 1 := by kernel_rfl
  have b24 : Try.prog.bytesOf 25 = 24 := by kernel_rfl
  obtain ⟨a0, len0, cap0, rfl⟩ := okWide_slice Try.underlying26 hv
  obtain ⟨fuel, hf⟩ := trod_of rfl h
  rcases Go.Deep.open_slice Try.underlying26 hf with ⟨hcs, _⟩ | ⟨a, len, cap, m, n, D, Pl, hcs, _, hl, hm, hmm, hx, hel⟩
  · simp only [List.cons.injEq, and_true] at hcs
    exact ⟨none, 0, [], hcs, fun h => absurd h (by simp), Nat.zero_le _, fun q hq => by cases hq⟩
  · simp only [List.cons.injEq, and_true] at hcs
    simp only [if_true] at hmm
    have hd : d = .slice ((List.range len).map D) ((List.range (m - len)).map fun j => D (len + j)) := congrArg (·.1) hx
    have hwd : ∀ y ∈ d.weights Try.prog 26, y ≤ reachBytes := hw
    rw [hd] at hwd
    simp only [DataW.weights, Try.underlying26, b24] at hwd
    have hle : len * 24 ≤ reachBytes := by
      have := hwd _ List.mem_cons_self
      simp only [List.length_map, List.length_range] at this
      omega
    have each : ∀ i, i < len → ∃ y : Value × List Inc, w.cell? (a.add i) = some y.1 ∧ (∃ (P : Option Addr) (c : Nat), y.1 = .slice P y.2.length c ∧ Rd w P y.2.length 5 (flatI y.2)) ∧ y.2.length ≤ 1000000000000000 := fun i hi => by
      obtain ⟨cs', h1, h2⟩ := hel i (by omega)
      obtain ⟨_, hlen, hcell⟩ := World.cells?_some h1
      rw [c1] at hlen
      match cs', hlen with
      | [u], _ =>
        have e := hcell 0 (by rw [c1]; omega)
        rw [Go.Deep.add_add, c1] at e
        obtain ⟨A, c, q, hu, hr, hq⟩ := open_incs h2 (fun y hy => hwd y (List.mem_cons_of_mem _ (List.mem_append_left _ (wAll_mem (List.mem_map.2 ⟨i, List.mem_range.2 hi, rfl⟩) y hy))))
        exact ⟨(u, q), by simpa using e, ⟨A, c, hu, hr⟩, hq⟩
    obtain ⟨f, hf⟩ := Go.Deep.choose_lt each
    have hr : Rd w (some a) len 1 ((List.range len).map fun i => (f i).1) := rd_of_cells (by simp) fun j u hu => by
      rw [List.getElem?_map, Option.map_eq_some_iff] at hu
      obtain ⟨i', hi', rfl⟩ := hu
      obtain ⟨hlt, rfl⟩ := List.getElem?_eq_some_iff.1 hi'
      simp only [List.length_range] at hlt
      simp only [List.getElem_range]
      exact (hf j hlt).1
    refine ⟨some a, cap, (List.range len).map fun i => (f i).2, by simpa using hcs, ?_, ?_, ?_⟩
    · intro h0
      simp only [List.length_map, List.length_range] at h0
      obtain ⟨b, o, e, hc⟩ := hr.2 h0
      refine ⟨b, o, e, fun i q hq => ?_⟩
      rw [List.getElem?_map, Option.map_eq_some_iff] at hq
      obtain ⟨i', hi', rfl⟩ := hq
      obtain ⟨hlt, rfl⟩ := List.getElem?_eq_some_iff.1 hi'
      simp only [List.length_range] at hlt
      simp only [List.getElem_range]
      obtain ⟨P, c, h1, h2⟩ := (hf i hlt).2.1
      refine ⟨P, c, ?_, h2⟩
      rw [← h1]
      exact hc i _ (by simp [hlt])
    · have : reachBytes = 0x7ffffffff000 := rfl
      simp
      omega
    · intro q hq
      rw [List.mem_map] at hq
      obtain ⟨i, hi, rfl⟩ := hq
      exact (hf i (List.mem_range.1 hi)).2.2
end
end Go.Proofs.Ytljkadpconghnaa
