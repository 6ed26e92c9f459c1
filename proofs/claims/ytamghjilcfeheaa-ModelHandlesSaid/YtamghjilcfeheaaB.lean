/- Graphs as lists, and how they lie in memory. Plain facts, no walk. -/
import Derived.Test.YtamghjilcfeheaaA
namespace Go.Proofs.Ytamghjilcfeheaa
open Go.RowKit Go.Draw

structure Gr where
  ns : List (List Int × List Int)
  us : List Bool
  rs : List Int

def vb (l : List Bool) : List Value := l.map .bool
def words (zs : List Int) : List Value := zs.map (.int .u64)
def vals : List (Value × Value) → List Value
  | [] => []
  | p :: l => p.1 :: p.2 :: vals l
theorem vals_len : ∀ l, (vals l).length = l.length * 2
  | [] => rfl
  | p :: l => by simp only [vals, List.length_cons, vals_len l]; omega
theorem vals_at : ∀ (l : List (Value × Value)) (i : Nat) (p : Value × Value), l[i]? = some p → (vals l)[i * 2]? = some p.1 ∧ (vals l)[i * 2 + 1]? = some p.2
  | [], i, p, h => by simp at h
  | q :: l, 0, p, h => by
    simp only [List.getElem?_cons_zero, Option.some.injEq] at h
    subst h
    exact ⟨rfl, rfl⟩
  | q :: l, i + 1, p, h => by
    simp only [List.getElem?_cons_succ] at h
    have := vals_at l i p h
    rw [show (i + 1) * 2 = i * 2 + 1 + 1 by omega]
    exact this
theorem vals_append : ∀ (l : List (Value × Value)) (p : Value × Value), vals (l ++ [p]) = vals l ++ [p.1, p.2]
  | [], p => rfl
  | q :: l, p => by simp only [List.cons_append, vals, vals_append l p]

theorem ints_len (l : List Int) : (ints l).length = l.length := by simp [ints]
theorem words_len (l : List Int) : (words l).length = l.length := by simp [words]
theorem vb_len (l : List Bool) : (vb l).length = l.length := by simp [vb]
theorem ints_at {l : List Int} {i : Nat} {z : Int} (h : l[i]? = some z) : (ints l)[i]? = some (.int .i64 z) := by simp [ints, h]
theorem words_at {l : List Int} {i : Nat} {z : Int} (h : l[i]? = some z) : (words l)[i]? = some (.int .u64 z) := by simp [words, h]
theorem vb_at {l : List Bool} {i : Nat} {z : Bool} (h : l[i]? = some z) : (vb l)[i]? = some (.bool z) := by simp [vb, h]
theorem ints_set (l : List Int) (i : Nat) (z : Int) : ints (l.set i z) = (ints l).set i (.int .i64 z) := by simp [ints, List.map_set]
theorem words_set (l : List Int) (i : Nat) (z : Int) : words (l.set i z) = (words l).set i (.int .u64 z) := by simp [words, List.map_set]
theorem vb_set (l : List Bool) (i : Nat) (z : Bool) : vb (l.set i z) = (vb l).set i (.bool z) := by simp [vb, List.map_set]
theorem one_ints (zs : List Int) : ∀ u ∈ ints zs, u.oneCell' = true := by
  intro u hu; simp only [ints, List.mem_map] at hu; obtain ⟨z, _, rfl⟩ := hu; rfl
theorem one_words (zs : List Int) : ∀ u ∈ words zs, u.oneCell' = true := by
  intro u hu; simp only [words, List.mem_map] at hu; obtain ⟨z, _, rfl⟩ := hu; rfl
theorem one_vb (zs : List Bool) : ∀ u ∈ vb zs, u.oneCell' = true := by
  intro u hu; simp only [vb, List.mem_map] at hu; obtain ⟨z, _, rfl⟩ := hu; rfl

theorem Try.el24 : Elem Try.prog 24 4 (.bool false) 1 1 := ⟨Try.underlying24, by kernel_rfl, rfl, by omega⟩
theorem Try.el22 : Elem Try.prog 22 3 (.int .i64 0) 1 8 := ⟨Try.underlying22, by kernel_rfl, rfl, by omega⟩
theorem Try.el47 : Elem Try.prog 47 31 (.int .u64 0) 1 8 := ⟨Try.underlying47, by kernel_rfl, rfl, by omega⟩
theorem Try.el23 : Elem Try.prog 23 49 (.agg #[.slice none 0 0, .slice none 0 0]) 2 48 := ⟨Try.underlying23, by kernel_rfl, rfl, by omega⟩

/-- the two slices of a node -/
def NdRd (w : World) (p : Value × Value) (x : List Int × List Int) : Prop := ∃ A c B d, p = (.slice A x.1.length c, .slice B x.2.length d) ∧ Rd w A x.1.length 1 (ints x.1) ∧ Rd w B x.2.length 1 (words x.2)
def GRd (w : World) (v : Value) (g : Gr) : Prop := ∃ A a B b C c ps, v = .agg #[.slice A g.ns.length a, .slice B g.us.length b, .slice C g.rs.length c] ∧
  Rd w A g.ns.length 2 (vals ps) ∧ Rd w B g.us.length 1 (vb g.us) ∧ Rd w C g.rs.length 1 (ints g.rs) ∧ ∀ (i : Nat) (p : Value × Value) (x : List Int × List Int), ps[i]? = some p → g.ns[i]? = some x → NdRd w p x
theorem NdRd.ext {w w' : World} {p : Value × Value} {x : List Int × List Int} (h : NdRd w p x) (he : Ext w w') : NdRd w' p x := by
  obtain ⟨A, c, B, d, hp, h1, h2⟩ := h
  exact ⟨A, c, B, d, hp, h1.ext he, h2.ext he⟩
theorem GRd.ext {w w' : World} {v : Value} {g : Gr} (h : GRd w v g) (he : Ext w w') : GRd w' v g := by
  obtain ⟨A, a, B, b, C, c, ps, hv, h1, h2, h3, h4⟩ := h
  exact ⟨A, a, B, b, C, c, ps, hv, h1.ext he, h2.ext he, h3.ext he, fun i p x hp hx => (h4 i p x hp hx).ext he⟩

inductive Ky where
  | A | B | C
  | R (i : Nat)
  | D (i : Nat)
def kv (vA vB vC : Value) (ps : List (Value × Value)) : Ky → Option Nat
  | .A => vA.ownBlock
  | .B => vB.ownBlock
  | .C => vC.ownBlock
  | .R i => ps[i]?.bind (·.1.ownBlock)
  | .D i => ps[i]?.bind (·.2.ownBlock)
/-- a graph of the call's own; o: the block of the variable that holds it -/
structure GOwn (w : World) (base o : Nat) (vA vB vC : Value) (ps : List (Value × Value)) (g : Gr) : Prop where
  nodes : w.ownsRow base 49 2 vA g.ns.length (vals ps)
  used : w.ownsRow base 4 1 vB g.us.length (vb g.us)
  roots : w.ownsRow base 3 1 vC g.rs.length (ints g.rs)
  each : ∀ (i : Nat) (p : Value × Value) (x : List Int × List Int), ps[i]? = some p → g.ns[i]? = some x → w.ownsRow base 3 1 p.1 x.1.length (ints x.1) ∧ w.ownsRow base 31 1 p.2 x.2.length (words x.2)
  apart : ∀ k k' b, kv vA vB vC ps k = some b → kv vA vB vC ps k' = some b → k = k'
  off : ∀ k, kv vA vB vC ps k ≠ some o

theorem own_slice {w : World} {base : Nat} {e : TypeId} {size n : Nat} {v : Value} {xs : List Value} (h : w.ownsRow base e size v n xs) : ∃ A c, v = .slice A n c := by
  rcases h.2 with ⟨h0, hz⟩ | ⟨g, cap, cur, hv, _⟩
  · exact ⟨none, 0, by rw [h0, hz]⟩
  · exact ⟨_, cap, hv⟩
theorem own_at {w : World} {base : Nat} {e : TypeId} {size n : Nat} {v : Value} {xs : List Value} (h : w.ownsRow base e size v n xs) (hn : 0 < n) : ∃ b c, v = .slice (some ⟨b, 0, none⟩) n c := by
  rcases h.2 with ⟨h0, hz⟩ | ⟨g, cap, cur, hv, _⟩
  · omega
  · exact ⟨_, cap, hv⟩

section
variable {w w' : World} {base o : Nat} {vA vB vC : Value} {ps : List (Value × Value)} {g : Gr}
theorem GOwn.len (h : GOwn w base o vA vB vC ps g) : ps.length = g.ns.length := by
  have := h.nodes.1
  rw [vals_len] at this
  omega
theorem GOwn.pair (h : GOwn w base o vA vB vC ps g) {i : Nat} {p : Value × Value} (hp : ps[i]? = some p) : ∃ x, g.ns[i]? = some x ∧ w.ownsRow base 3 1 p.1 x.1.length (ints x.1) ∧ w.ownsRow base 31 1 p.2 x.2.length (words x.2) := by
  have hl := (List.getElem?_eq_some_iff.1 hp).1
  rw [h.len] at hl
  exact ⟨_, List.getElem?_eq_getElem hl, h.each i p _ hp (List.getElem?_eq_getElem hl)⟩
theorem GOwn.lt (h : GOwn w base o vA vB vC ps g) : ∀ k b, kv vA vB vC ps k = some b → base ≤ b ∧ b < w.heap.size
  | .A, b, hk => World.ownsRow.lt h.nodes b hk
  | .B, b, hk => World.ownsRow.lt h.used b hk
  | .C, b, hk => World.ownsRow.lt h.roots b hk
  | .R i, b, hk => by
    simp only [kv, Option.bind_eq_some_iff] at hk
    obtain ⟨p, hp, hb⟩ := hk
    obtain ⟨x, _, h1, _⟩ := h.pair hp
    exact World.ownsRow.lt h1 b hb
  | .D i, b, hk => by
    simp only [kv, Option.bind_eq_some_iff] at hk
    obtain ⟨p, hp, hb⟩ := hk
    obtain ⟨x, _, _, h1⟩ := h.pair hp
    exact World.ownsRow.lt h1 b hb
theorem GOwn.but {S : List Nat} (h : GOwn w base o vA vB vC ps g) (he : But S w w') (hS : ∀ k b, kv vA vB vC ps k = some b → b ∉ S) : GOwn w' base o vA vB vC ps g :=
  ⟨own_but h.nodes he (fun b hb => hS .A b hb), own_but h.used he (fun b hb => hS .B b hb), own_but h.roots he (fun b hb => hS .C b hb),
    fun i p x hp hx => ⟨own_but (h.each i p x hp hx).1 he (fun b hb => hS (.R i) b (by simp only [kv, hp, Option.bind_some, hb])), own_but (h.each i p x hp hx).2 he (fun b hb => hS (.D i) b (by simp only [kv, hp, Option.bind_some, hb]))⟩, h.apart, h.off⟩
theorem GOwn.ext (h : GOwn w base o vA vB vC ps g) (he : Ext w w') : GOwn w' base o vA vB vC ps g := h.but (he.but []) (fun _ _ _ => by simp)
theorem GOwn.base_ (h : GOwn w base o vA vB vC ps g) {base' : Nat} (hb : base' ≤ base) : GOwn w base' o vA vB vC ps g :=
  ⟨own_base h.nodes hb, own_base h.used hb, own_base h.roots hb, fun i p x hp hx => ⟨own_base (h.each i p x hp hx).1 hb, own_base (h.each i p x hp hx).2 hb⟩, h.apart, h.off⟩
theorem GOwn.off_ (h : GOwn w base o vA vB vC ps g) {o' : Nat} (ho : w.heap.size ≤ o') : GOwn w base o' vA vB vC ps g :=
  ⟨h.nodes, h.used, h.roots, h.each, h.apart, fun k hk => by have := (h.lt k o' hk).2; omega⟩
theorem GOwn.offb (h : GOwn w base o vA vB vC ps g) {o' : Nat} (ho : o' < base) : GOwn w base o' vA vB vC ps g :=
  ⟨h.nodes, h.used, h.roots, h.each, h.apart, fun k hk => by have := (h.lt k o' hk).1; omega⟩
/-- a store elsewhere -/
theorem GOwn.far (h : GOwn w base o vA vB vC ps g) {a : Addr} (ha : ∀ k, kv vA vB vC ps k ≠ some a.block) (u : Value) : GOwn (w.setCell a u) base o vA vB vC ps g :=
  h.but (But.setCell (S := [a.block]) (But.refl _ _) (by simp) u) (fun k b hk hb => by have := List.mem_singleton.1 hb; subst this; exact ha k hk)
theorem GOwn.rd (h : GOwn w base o vA vB vC ps g) : GRd w (.agg #[vA, vB, vC]) g := by
  obtain ⟨A, a, rfl⟩ := own_slice h.nodes
  obtain ⟨B, b, rfl⟩ := own_slice h.used
  obtain ⟨C, c, rfl⟩ := own_slice h.roots
  refine ⟨A, a, B, b, C, c, ps, rfl, Rd.of_own h.nodes, Rd.of_own h.used, Rd.of_own h.roots, fun i p x hp hx => ?_⟩
  obtain ⟨h1, h2⟩ := h.each i p x hp hx
  obtain ⟨p1, p2⟩ := p
  obtain ⟨A', a', rfl⟩ := own_slice h1
  obtain ⟨B', b', rfl⟩ := own_slice h2
  exact ⟨A', a', B', b', rfl, Rd.of_own h1, Rd.of_own h2⟩
/-- Used[i] = u -/
theorem GOwn.setU {b n c : Nat} (h : GOwn w base o vA vB vC ps g) (hv : vB = .slice (some ⟨b, 0, none⟩) n c) (i : Nat) (u : Bool) : GOwn (w.setCell ⟨b, i, none⟩ (.bool u)) base o vA vB vC ps { g with us := g.us.set i u } := by
  have hk : kv vA vB vC ps .B = some b := by rw [hv]; rfl
  have hB : But [b] w (w.setCell ⟨b, i, none⟩ (.bool u)) := But.setCell (But.refl _ _) (by simp) _
  have hne : ∀ k, k ≠ .B → ∀ b', kv vA vB vC ps k = some b' → b' ∉ [b] := fun k hkb b' hb hm => by
    have := List.mem_singleton.1 hm; subst this; exact hkb (h.apart _ _ _ hb hk)
  refine ⟨own_but h.nodes hB (hne .A (by simp)), ?_, own_but h.roots hB (hne .C (by simp)), fun j p x hp hx => ⟨own_but (h.each j p x hp hx).1 hB (fun b' hb => hne (.R j) (by simp) b' (by simp only [kv, hp, Option.bind_some, hb])), own_but (h.each j p x hp hx).2 hB (fun b' hb => hne (.D j) (by simp) b' (by simp only [kv, hp, Option.bind_some, hb]))⟩, h.apart, h.off⟩
  have hu := h.used
  obtain ⟨A, a, hs⟩ := own_slice hu
  rw [hs] at hv
  injection hv with hv1 hv2 hv3
  subst hv1 hv2 hv3
  subst hs
  show World.ownsRow _ base 4 1 _ (g.us.set i u).length (vb (g.us.set i u))
  rw [List.length_set, vb_set]
  exact own_set hu i _
/-- Roots[i] = r -/
theorem GOwn.setC {b n c : Nat} (h : GOwn w base o vA vB vC ps g) (hv : vC = .slice (some ⟨b, 0, none⟩) n c) (i : Nat) (u : Int) : GOwn (w.setCell ⟨b, i, none⟩ (.int .i64 u)) base o vA vB vC ps { g with rs := g.rs.set i u } := by
  have hk : kv vA vB vC ps .C = some b := by rw [hv]; rfl
  have hB : But [b] w (w.setCell ⟨b, i, none⟩ (.int .i64 u)) := But.setCell (But.refl _ _) (by simp) _
  have hne : ∀ k, k ≠ .C → ∀ b', kv vA vB vC ps k = some b' → b' ∉ [b] := fun k hkb b' hb hm => by
    have := List.mem_singleton.1 hm; subst this; exact hkb (h.apart _ _ _ hb hk)
  refine ⟨own_but h.nodes hB (hne .A (by simp)), own_but h.used hB (hne .B (by simp)), ?_, fun j p x hp hx => ⟨own_but (h.each j p x hp hx).1 hB (fun b' hb => hne (.R j) (by simp) b' (by simp only [kv, hp, Option.bind_some, hb])), own_but (h.each j p x hp hx).2 hB (fun b' hb => hne (.D j) (by simp) b' (by simp only [kv, hp, Option.bind_some, hb]))⟩, h.apart, h.off⟩
  have hu := h.roots
  obtain ⟨A, a, hs⟩ := own_slice hu
  rw [hs] at hv
  injection hv with hv1 hv2 hv3
  subst hv1 hv2 hv3
  subst hs
  show World.ownsRow _ base 3 1 _ (g.rs.set i u).length (ints (g.rs.set i u))
  rw [List.length_set, ints_set]
  exact own_set hu i _
/-- Nodes[m].Refs[i] = r -/
theorem GOwn.setR {b n c m : Nat} {p : Value × Value} {x : List Int × List Int} (h : GOwn w base o vA vB vC ps g) (hp : ps[m]? = some p) (hx : g.ns[m]? = some x) (hv : p.1 = .slice (some ⟨b, 0, none⟩) n c) (i : Nat) (u : Int) :
    GOwn (w.setCell ⟨b, i, none⟩ (.int .i64 u)) base o vA vB vC ps { g with ns := g.ns.set m (x.1.set i u, x.2) } := by
  have hk : kv vA vB vC ps (.R m) = some b := by simp only [kv, hp, Option.bind_some]; rw [hv]; rfl
  have hB : But [b] w (w.setCell ⟨b, i, none⟩ (.int .i64 u)) := But.setCell (But.refl _ _) (by simp) _
  have hne : ∀ k, k ≠ .R m → ∀ b', kv vA vB vC ps k = some b' → b' ∉ [b] := fun k hkb b' hb hm => by
    have := List.mem_singleton.1 hm; subst this; exact hkb (h.apart _ _ _ hb hk)
  refine ⟨?_, own_but h.used hB (hne .B (by simp)), own_but h.roots hB (hne .C (by simp)), ?_, h.apart, h.off⟩
  · show World.ownsRow _ base 49 2 _ (g.ns.set m _).length _
    rw [List.length_set]; exact own_but h.nodes hB (hne .A (by simp))
  · intro j q y hq hy
    by_cases hj : j = m
    · subst hj
      rw [hp] at hq; injection hq with hq; subst hq
      have hl := (List.getElem?_eq_some_iff.1 hx).1
      simp only [List.getElem?_set_self hl, Option.some.injEq] at hy
      subst hy
      obtain ⟨h1, h2⟩ := h.each j p x hp hx
      refine ⟨?_, own_but h2 hB (fun b' hb => hne (.D j) (by simp) b' (by simp only [kv, hp, Option.bind_some, hb]))⟩
      obtain ⟨p1, p2⟩ := p
      obtain ⟨A, a, hs⟩ := own_slice h1
      simp only at hs hv h1 ⊢
      rw [hs] at hv
      injection hv with hv1 hv2 hv3
      subst hv1 hv2 hv3
      subst hs
      rw [List.length_set, ints_set]
      exact own_set h1 i _
    · simp only [List.getElem?_set_ne (Ne.symm hj)] at hy
      obtain ⟨h1, h2⟩ := h.each j q y hq hy
      exact ⟨own_but h1 hB (fun b' hb => hne (.R j) (by simp [hj]) b' (by simp only [kv, hq, Option.bind_some, hb])), own_but h2 hB (fun b' hb => hne (.D j) (by simp) b' (by simp only [kv, hq, Option.bind_some, hb]))⟩
/-- Nodes[m].Data[i] = r -/
theorem GOwn.setD {b n c m : Nat} {p : Value × Value} {x : List Int × List Int} (h : GOwn w base o vA vB vC ps g) (hp : ps[m]? = some p) (hx : g.ns[m]? = some x) (hv : p.2 = .slice (some ⟨b, 0, none⟩) n c) (i : Nat) (u : Int) :
    GOwn (w.setCell ⟨b, i, none⟩ (.int .u64 u)) base o vA vB vC ps { g with ns := g.ns.set m (x.1, x.2.set i u) } := by
  have hk : kv vA vB vC ps (.D m) = some b := by simp only [kv, hp, Option.bind_some]; rw [hv]; rfl
  have hB : But [b] w (w.setCell ⟨b, i, none⟩ (.int .u64 u)) := But.setCell (But.refl _ _) (by simp) _
  have hne : ∀ k, k ≠ .D m → ∀ b', kv vA vB vC ps k = some b' → b' ∉ [b] := fun k hkb b' hb hm => by
    have := List.mem_singleton.1 hm; subst this; exact hkb (h.apart _ _ _ hb hk)
  refine ⟨?_, own_but h.used hB (hne .B (by simp)), own_but h.roots hB (hne .C (by simp)), ?_, h.apart, h.off⟩
  · show World.ownsRow _ base 49 2 _ (g.ns.set m _).length _
    rw [List.length_set]; exact own_but h.nodes hB (hne .A (by simp))
  · intro j q y hq hy
    by_cases hj : j = m
    · subst hj
      rw [hp] at hq; injection hq with hq; subst hq
      have hl := (List.getElem?_eq_some_iff.1 hx).1
      simp only [List.getElem?_set_self hl, Option.some.injEq] at hy
      subst hy
      obtain ⟨h1, h2⟩ := h.each j p x hp hx
      refine ⟨own_but h1 hB (fun b' hb => hne (.R j) (by simp) b' (by simp only [kv, hp, Option.bind_some, hb])), ?_⟩
      obtain ⟨p1, p2⟩ := p
      obtain ⟨A, a, hs⟩ := own_slice h2
      simp only at hs hv h2 ⊢
      rw [hs] at hv
      injection hv with hv1 hv2 hv3
      subst hv1 hv2 hv3
      subst hs
      rw [List.length_set, words_set]
      exact own_set h2 i _
    · simp only [List.getElem?_set_ne (Ne.symm hj)] at hy
      obtain ⟨h1, h2⟩ := h.each j q y hq hy
      exact ⟨own_but h1 hB (fun b' hb => hne (.R j) (by simp) b' (by simp only [kv, hq, Option.bind_some, hb])), own_but h2 hB (fun b' hb => hne (.D j) (by simp [hj]) b' (by simp only [kv, hq, Option.bind_some, hb]))⟩
end
end Go.Proofs.Ytamghjilcfeheaa
