/- A node is added to a graph of the call's own; the clones. Conditions: the ranges that each theorem states. -/
import Derived.Test.YtamghjilcfeheaaB
import Derived.Test.YtamghjilcfeheaaTree
namespace Go.Proofs.Ytamghjilcfeheaa
open Go.RowKit Go.Draw

theorem but_grown {w w' : World} {r : Option Nat} (h : w.grownBy w' r) : But r.toList w w' :=
  ⟨h.os, h.tape, h.output, h.size, fun k hk hn => h.block k hk (fun e => hn (by rw [← e]; simp))⟩
section
variable {w w' : World} {base o : Nat} {vA vB vC vA' : Value} {ps : List (Value × Value)} {g : Gr} {p : Value × Value} {x : List Int × List Int}
theorem kv_push (hat : vA'.ownBlock = vA.ownBlock ∨ vA'.ownBlock = some w.heap.size) : ∀ k b, kv vA' vB vC (ps ++ [p]) k = some b →
    (k = .A ∧ (kv vA vB vC ps .A = some b ∨ b = w.heap.size)) ∨ (k = .R ps.length ∧ p.1.ownBlock = some b) ∨ (k = .D ps.length ∧ p.2.ownBlock = some b) ∨ (k ≠ .A ∧ kv vA vB vC ps k = some b)
  | .A, b, h => by
    refine Or.inl ⟨rfl, ?_⟩
    simp only [kv] at h ⊢
    rcases hat with e | e
    · left; rw [← e]; exact h
    · right; rw [e] at h; injection h with h; exact h.symm
  | .B, b, h => Or.inr (Or.inr (Or.inr ⟨by simp, h⟩))
  | .C, b, h => Or.inr (Or.inr (Or.inr ⟨by simp, h⟩))
  | .R i, b, h => by
    simp only [kv, Option.bind_eq_some_iff] at h
    obtain ⟨q, hq, hb⟩ := h
    by_cases hi : i < ps.length
    · rw [List.getElem?_append_left hi] at hq
      exact Or.inr (Or.inr (Or.inr ⟨by simp, by simp only [kv, hq, Option.bind_some, hb]⟩))
    · have hl := (List.getElem?_eq_some_iff.1 hq).1
      simp only [List.length_append, List.length_singleton] at hl
      have : i = ps.length := by omega
      subst this
      simp at hq
      subst hq
      exact Or.inr (Or.inl ⟨rfl, hb⟩)
  | .D i, b, h => by
    simp only [kv, Option.bind_eq_some_iff] at h
    obtain ⟨q, hq, hb⟩ := h
    by_cases hi : i < ps.length
    · rw [List.getElem?_append_left hi] at hq
      exact Or.inr (Or.inr (Or.inr ⟨by simp, by simp only [kv, hq, Option.bind_some, hb]⟩))
    · have hl := (List.getElem?_eq_some_iff.1 hq).1
      simp only [List.length_append, List.length_singleton] at hl
      have : i = ps.length := by omega
      subst this
      simp at hq
      subst hq
      exact Or.inr (Or.inr (Or.inl ⟨rfl, hb⟩))
theorem GOwn.push (h : GOwn w base o vA vB vC ps g) (h1 : w.ownsRow base 3 1 p.1 x.1.length (ints x.1)) (h2 : w.ownsRow base 31 1 p.2 x.2.length (words x.2))
    (f1 : ∀ b, p.1.ownBlock = some b → b ≠ o ∧ ∀ k, kv vA vB vC ps k ≠ some b) (f2 : ∀ b, p.2.ownBlock = some b → b ≠ o ∧ (∀ k, kv vA vB vC ps k ≠ some b) ∧ p.1.ownBlock ≠ some b)
    (ha : w'.ownsRow base 49 2 vA' (g.ns.length + 1) (vals ps ++ [p.1, p.2])) (hg : w.grownBy w' vA.ownBlock) (hat : vA'.ownBlock = vA.ownBlock ∨ vA'.ownBlock = some w.heap.size) (ho : o < w.heap.size) :
    GOwn w' base o vA' vB vC (ps ++ [p]) { g with ns := g.ns ++ [x] } := by
  have hB := but_grown hg
  have hlen := h.len
  have hne : ∀ k, k ≠ .A → ∀ b, kv vA vB vC ps k = some b → b ∉ vA.ownBlock.toList := fun k hk b hb hm => by
    have : vA.ownBlock = some b := by simpa using hm
    exact hk (h.apart _ _ _ hb this)
  have hnp : ∀ b, (∀ k, kv vA vB vC ps k ≠ some b) → b ∉ vA.ownBlock.toList := fun b hb hm => by
    have : vA.ownBlock = some b := by simpa using hm
    exact hb .A this
  refine ⟨?_, own_but h.used hB (hne .B (by simp)), own_but h.roots hB (hne .C (by simp)), ?_, ?_, ?_⟩
  · rw [vals_append]; simpa using ha
  · intro i q y hq hy
    by_cases hi : i < ps.length
    · rw [List.getElem?_append_left hi] at hq
      simp only [List.getElem?_append_left (show i < g.ns.length by omega)] at hy
      obtain ⟨k1, k2⟩ := h.each i q y hq hy
      exact ⟨own_but k1 hB (fun b hb => hne (.R i) (by simp) b (by simp only [kv, hq, Option.bind_some, hb])), own_but k2 hB (fun b hb => hne (.D i) (by simp) b (by simp only [kv, hq, Option.bind_some, hb]))⟩
    · have hl := (List.getElem?_eq_some_iff.1 hq).1
      simp only [List.length_append, List.length_singleton] at hl
      have : i = ps.length := by omega
      subst this
      simp at hq
      subst hq
      simp [hlen] at hy
      subst hy
      exact ⟨own_but h1 hB (fun b hb => hnp b (f1 b hb).2), own_but h2 hB (fun b hb => hnp b (f2 b hb).2.1)⟩
  · intro k k' b hk hk'
    have hltA : ∀ k b, kv vA vB vC ps k = some b → b ≠ w.heap.size := fun k b hb => by have := (h.lt k b hb).2; omega
    have hlt1 : ∀ b, p.1.ownBlock = some b → b ≠ w.heap.size := fun b hb => by have := (World.ownsRow.lt h1 b hb).2; omega
    have hlt2 : ∀ b, p.2.ownBlock = some b → b ≠ w.heap.size := fun b hb => by have := (World.ownsRow.lt h2 b hb).2; omega
    rcases kv_push hat k b hk with ⟨rfl, c⟩ | ⟨rfl, c⟩ | ⟨rfl, c⟩ | ⟨n, c⟩ <;> rcases kv_push hat k' b hk' with ⟨rfl, d⟩ | ⟨rfl, d⟩ | ⟨rfl, d⟩ | ⟨m, d⟩
    · rfl
    · rcases c with c | c
      · exact absurd c ((f1 b d).2 .A)
      · exact absurd c (hlt1 b d)
    · rcases c with c | c
      · exact absurd c ((f2 b d).2.1 .A)
      · exact absurd c (hlt2 b d)
    · rcases c with c | c
      · exact h.apart _ _ _ c d
      · exact absurd c (hltA _ _ d)
    · rcases d with d | d
      · exact absurd d ((f1 b c).2 .A)
      · exact absurd d (hlt1 b c)
    · rfl
    · exact absurd c (f2 b d).2.2
    · exact absurd d ((f1 b c).2 _)
    · rcases d with d | d
      · exact absurd d ((f2 b c).2.1 .A)
      · exact absurd d (hlt2 b c)
    · exact absurd d (f2 b c).2.2
    · rfl
    · exact absurd d ((f2 b c).2.1 _)
    · rcases d with d | d
      · exact h.apart _ _ _ c d
      · exact absurd d (hltA _ _ c)
    · exact absurd c ((f1 b d).2 _)
    · exact absurd c ((f2 b d).2.1 _)
    · exact h.apart _ _ _ c d
  · intro k hk
    rcases kv_push hat k o hk with ⟨rfl, c⟩ | ⟨rfl, c⟩ | ⟨rfl, c⟩ | ⟨n, c⟩
    · rcases c with c | c
      · exact h.off _ c
      · omega
    · exact (f1 o c).1 rfl
    · exact (f2 o c).1 rfl
    · exact h.off _ c
end
theorem gown_nil {w : World} {base o : Nat} {vB vC : Value} {us : List Bool} {rs : List Int} (hB : w.ownsRow base 4 1 vB us.length (vb us)) (hC : w.ownsRow base 3 1 vC rs.length (ints rs)) (oB : vB.ownBlock ≠ some o) (oC : vC.ownBlock ≠ some o) :
    GOwn w base o (.slice none 0 0) vB vC [] ⟨[], us, rs⟩ := by
  have hne : ∀ b, vB.ownBlock = some b → vC.ownBlock ≠ some b := fun b h1 h2 => by
    obtain ⟨A, a, rfl⟩ := own_slice hB
    obtain ⟨C, c, rfl⟩ := own_slice hC
    rcases hB.2 with ⟨h0, _⟩ | ⟨q, cap, cur, hv, _, hg, _⟩
    · injection h0 with h0; subst h0; simp [Value.ownBlock] at h1
    · rcases hC.2 with ⟨h0, _⟩ | ⟨q', cap', cur', hv', _, hg', _⟩
      · injection h0 with h0; subst h0; simp [Value.ownBlock] at h2
      · injection hv with hv; injection hv' with hv'
        subst hv hv'
        simp only [Value.ownBlock, Option.some.injEq] at h1 h2
        subst h1; subst h2
        rw [hg] at hg'
        injection hg' with hg'
        injection hg' with _ ht
        exact absurd ht (by decide)
  refine ⟨own_nil _ _ _ _, hB, hC, fun i p x hp _ => by simp at hp, ?_, ?_⟩
  · intro k k' b hk hk'
    cases k <;> cases k' <;> simp [kv, Value.ownBlock] at hk hk' ⊢
    · exact hne b hk hk'
    · exact hne b hk' hk
  · intro k hk
    cases k <;> simp [kv, Value.ownBlock] at hk
    · exact oB hk
    · exact oC hk
end Go.Proofs.Ytamghjilcfeheaa
