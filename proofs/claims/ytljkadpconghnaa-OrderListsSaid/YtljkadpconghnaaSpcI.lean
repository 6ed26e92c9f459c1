/- A frame more in a chain. Plain facts, no walk. -/
import Derived.Test.YtljkadpconghnaaSpcH
namespace Go.Proofs.Ytljkadpconghnaa
open Go.RowKit Go.Draw

/-- frame i, free as yet, behind the end of a chain -/
def linkF (fs : List Fr) (c : List Nat) (i : Nat) (q st : Int) : List Fr :=
  if c = [] then fs.set i ⟨q, st, -1⟩ else (fs.set i ⟨q, st, -1⟩).set (c.getD (c.length - 1) 0) ⟨q, st, i⟩
theorem linkF_len (fs : List Fr) (c : List Nat) (i : Nat) (q st : Int) : (linkF fs c i q st).length = fs.length := by
  unfold linkF; split <;> simp
theorem posI_app {c : List Nat} {i p : Nat} (h : p < c.length) : posI (c ++ [i]) p = posI c p := by
  unfold posI; rw [List.getElem?_append_left h]
theorem posI_end (c : List Nat) (i : Nat) : posI (c ++ [i]) c.length = (i : Int) := posI_some (by simp)
theorem posI_out {c : List Nat} {i p : Nat} (h : c.length < p) : posI (c ++ [i]) p = -1 := posI_none (by simp; omega)
theorem lastI_app (c : List Nat) (i : Nat) : lastI (c ++ [i]) = (i : Int) := by
  unfold lastI
  rw [show (c ++ [i]).length - 1 = c.length by simp]
  exact posI_end c i
theorem first_free {fs : List Fr} (h : 0 < (frK fs fs.length).length) : ∃ i : Nat, (∃ F : Fr, fs[i]? = some F ∧ F.o = -1) ∧ ∀ (j : Nat) (F : Fr), j < i → fs[j]? = some F → F.o ≠ -1 := by
  have hm : ∃ i : Nat, ∃ F : Fr, fs[i]? = some F ∧ F.o = -1 := by
    have hi := List.getElem_mem (l := frK fs fs.length) h
    have h1 : (frK fs fs.length)[0] ∈ ownK fs (-1) fs.length := hi
    obtain ⟨_, h2⟩ := mem_ownK.1 h1
    exact ⟨_, h2⟩
  obtain ⟨i, hi⟩ := hm
  have key : ∀ n i : Nat, i ≤ n → (∃ F : Fr, fs[i]? = some F ∧ F.o = -1) → ∃ i : Nat, (∃ F : Fr, fs[i]? = some F ∧ F.o = -1) ∧ ∀ (j : Nat) (F : Fr), j < i → fs[j]? = some F → F.o ≠ -1 := by
    intro n
    induction n with
    | zero =>
      intro i hi h
      obtain rfl : i = 0 := by omega
      exact ⟨0, h, fun j F hj => by omega⟩
    | succ n ih =>
      intro i hi h
      by_cases hx : ∃ j : Nat, j < i ∧ ∃ F : Fr, fs[j]? = some F ∧ F.o = -1
      · obtain ⟨j, hj, h2⟩ := hx
        exact ih j (by omega) h2
      · exact ⟨i, h, fun j F hj hF ho => hx ⟨j, hj, F, hF, ho⟩⟩
  exact key i i (Nat.le_refl _) hi
section
variable {S : Sp} {L : List Ch} {x : Ch}
theorem Chs.notin (h : Chs S L) {i : Nat} {F : Fr} (hF : S.fs[i]? = some F) (ho : F.o = -1) : i ∉ used L := by
  rcases h.cases hF with ⟨_, hu⟩ | ⟨y, hy, p, hp, rfl⟩
  · exact hu
  · have := (h.ids y hy).1
    simp only at ho
    omega
def Ch.push (x : Ch) (i : Nat) : Ch := { x with c := x.c ++ [i] }
theorem used_push {f i : Nat} : f ∈ used (x.push i :: L) ↔ f ∈ used (x :: L) ∨ f = i := by
  simp only [used, List.flatMap_cons, List.mem_append, Ch.push, List.mem_singleton]
  constructor
  · rintro ((h | h) | h)
    · exact .inl (.inl h)
    · exact .inr h
    · exact .inl (.inr h)
  · rintro ((h | h) | h)
    · exact .inl (.inl h)
    · exact .inr h
    · exact .inl (.inr h)
theorem linkF_at (h : Chs S (x :: L)) {i : Nat} {F : Fr} (hF : S.fs[i]? = some F) (ho : F.o = -1) :
    (linkF S.fs x.c i x.q x.st)[i]? = some ⟨x.q, x.st, -1⟩ ∧ (∀ g, x.c[x.c.length - 1]? = some g → (linkF S.fs x.c i x.q x.st)[g]? = some ⟨x.q, x.st, i⟩) ∧
    ∀ f, f ≠ i → (∀ g, x.c[x.c.length - 1]? = some g → f ≠ g) → (linkF S.fs x.c i x.q x.st)[f]? = S.fs[f]? := by
  have hil := (List.getElem?_eq_some_iff.1 hF).1
  have hni := h.notin hF ho
  unfold linkF
  by_cases hc : x.c = []
  · rw [if_pos hc]
    refine ⟨by rw [List.getElem?_set, if_pos rfl, if_pos hil], fun g hg => ?_, fun f hf _ => by rw [List.getElem?_set, if_neg (fun e => hf e.symm)]⟩
    rw [hc] at hg
    simp at hg
  · rw [if_neg hc]
    have hl : 0 < x.c.length := List.length_pos_iff.2 hc
    have hg : x.c[x.c.length - 1]? = some x.c[x.c.length - 1] := List.getElem?_eq_getElem (by omega)
    generalize x.c[x.c.length - 1]'(by omega) = g at hg
    have hgd : x.c.getD (x.c.length - 1) 0 = g := by rw [List.getD_eq_getElem?_getD, hg]; rfl
    rw [hgd]
    have hgl := h.lt (List.mem_cons_self) hg
    have hgi : g ≠ i := fun e => by subst e; exact hni (mem_used.2 ⟨x, List.mem_cons_self, _, hg⟩)
    refine ⟨?_, fun g' hg' => ?_, fun f hf hfg => ?_⟩
    · rw [List.getElem?_set, if_neg hgi, List.getElem?_set, if_pos rfl, if_pos hil]
    · rw [hg] at hg'
      injection hg' with hg'
      subst hg'
      rw [List.getElem?_set, if_pos rfl, if_pos (by simpa using hgl)]
    · rw [List.getElem?_set, if_neg (fun e => hfg g hg e.symm), List.getElem?_set, if_neg (fun e => hf e.symm)]
theorem Chs.push (h : Chs S (x :: L)) {i : Nat} {F : Fr} (hF : S.fs[i]? = some F) (ho : F.o = -1) : Chs { S with fs := linkF S.fs x.c i x.q x.st } (x.push i :: L) := by
  have hil := (List.getElem?_eq_some_iff.1 hF).1
  have hni := h.notin hF ho
  obtain ⟨h1, h2, h3⟩ := linkF_at h hF ho
  have hst : (x.push i).st = x.st := rfl
  refine ⟨h.sh, by simpa only [linkF_len] using h.n2, by simpa only [linkF_len] using h.wl, ?_, ?_, ?_, ?_, ?_, ?_⟩
  · intro y hy
    rcases List.mem_cons.1 hy with rfl | hy
    · exact h.ids x List.mem_cons_self
    · exact h.ids y (List.mem_cons_of_mem _ hy)
  · exact h.sq
  · intro y hy p f hp
    rcases List.mem_cons.1 hy with rfl | hyL
    · simp only [Ch.push] at hp
      rw [hst]
      show (linkF S.fs x.c i x.q x.st)[f]? = some ⟨x.q, x.st, posI (x.c ++ [i]) (p + 1)⟩
      rcases Nat.lt_or_ge p x.c.length with hpl | hpl
      · rw [List.getElem?_append_left hpl] at hp
        by_cases he : p + 1 = x.c.length
        · rw [he, posI_end]
          exact h2 f (by rw [show x.c.length - 1 = p by omega]; exact hp)
        · rw [posI_app (by omega), h3 f (fun e => by subst e; exact hni (mem_used.2 ⟨x, List.mem_cons_self, _, hp⟩)) (fun g hg e => by
            subst e
            have := nodup_at (nodup_of_mem List.mem_cons_self h.nd) hp hg
            omega)]
          exact h.fr x List.mem_cons_self p f hp
      · have hpe : p = x.c.length := by
          have := (List.getElem?_eq_some_iff.1 hp).1
          simp at this; omega
        subst hpe
        simp only [List.getElem?_append_right (Nat.le_refl _), Nat.sub_self, List.getElem?_cons_zero, Option.some.injEq] at hp
        subst hp
        rw [posI_out (by omega)]
        exact h1
    · rw [h3 f (fun e => by subst e; exact hni (mem_used.2 ⟨y, List.mem_cons_of_mem _ hyL, _, hp⟩)) (fun g hg e => by
        subst e
        have h4 := h.nd
        simp only [used, List.flatMap_cons] at h4
        exact (List.nodup_append.1 h4).2.2 f (List.mem_of_getElem? hg) f (List.mem_flatMap.2 ⟨y, hyL, List.mem_of_getElem? hp⟩) rfl)]
      exact h.fr y (List.mem_cons_of_mem _ hyL) p f hp
  · have h4 := h.nd
    simp only [used, List.flatMap_cons] at h4 ⊢
    obtain ⟨a1, a2, a3⟩ := List.nodup_append.1 h4
    have hn' : i ∉ x.c ∧ i ∉ L.flatMap (·.c) := by
      simp only [used, List.flatMap_cons, List.mem_append, not_or] at hni
      exact hni
    refine List.nodup_append.2 ⟨List.nodup_append.2 ⟨a1, by simp, fun a ha b hb e => ?_⟩, a2, fun a ha b hb e => ?_⟩
    · have := List.mem_singleton.1 hb
      subst this; subst e
      exact hn'.1 ha
    · subst e
      rcases List.mem_append.1 ha with ha | ha
      · exact a3 a ha a hb rfl
      · have := List.mem_singleton.1 ha
        subst this
        exact hn'.2 hb
  · intro f hf hu
    simp only [linkF_len] at hf
    rw [used_push, not_or] at hu
    rw [h3 f hu.2 (fun g hg e => by subst e; exact hu.1 (mem_used.2 ⟨x, List.mem_cons_self, _, hg⟩))]
    exact h.free f hf hu.1
  · intro f hf hu
    simp only [linkF_len] at hf
    rw [used_push, not_or] at hu
    exact h.zero f hf hu.1
theorem used_push_len {i : Nat} : (used (x.push i :: L)).length = (used (x :: L)).length + 1 := by
  simp only [used, List.flatMap_cons, List.length_append, Ch.push, List.length_cons, List.length_nil]
  omega
theorem frs_link (h : Chs S (x :: L)) {i : Nat} {F : Fr} (hF : S.fs[i]? = some F) (ho : F.o = -1) {g : Nat} (hg : x.c[x.c.length - 1]? = some g) :
    (frs (S.fs.set i ⟨x.q, x.st, -1⟩)).set (g * 3 + 2) (.int .i64 (i : Int)) = frs (linkF S.fs x.c i x.q x.st) := by
  have hni := h.notin hF ho
  have hgi : g ≠ i := fun e => by subst e; exact hni (mem_used.2 ⟨x, List.mem_cons_self, _, hg⟩)
  have hgF := h.fr x List.mem_cons_self _ g hg
  rw [frs_next _ g ⟨x.q, x.st, posI x.c (x.c.length - 1 + 1)⟩ (i : Int) (by rw [List.getElem?_set, if_neg (fun e => hgi e.symm)]; exact hgF)]
  unfold linkF
  rw [if_neg (by intro e; rw [e] at hg; simp at hg), List.getD_eq_getElem?_getD, hg]
  rfl
end
end Go.Proofs.Ytljkadpconghnaa
