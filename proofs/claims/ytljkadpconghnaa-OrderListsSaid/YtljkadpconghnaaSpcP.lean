/- Increments in rows; the walk of make.Space. Conditions: the ranges that each theorem states. -/
import Derived.Test.YtljkadpconghnaaSpcO
namespace Go.Proofs.Ytljkadpconghnaa
open Go.RowKit Go.Draw

structure Inc where
  q : Int
  b : Int
  f : Int
  l : Int
  w : Int
deriving DecidableEq
def Inc.a (i : Inc) : Array Value := #[.int .i64 i.q, .int .i64 i.b, .int .i64 i.f, .int .i64 i.l, .int .i64 i.w]
def flatI : List Inc → List Value
  | [] => []
  | i :: l => .int .i64 i.q :: .int .i64 i.b :: .int .i64 i.f :: .int .i64 i.l :: .int .i64 i.w :: flatI l
theorem flatI_len : ∀ l, (flatI l).length = l.length * 5
  | [] => rfl
  | f :: l => by simp only [flatI, List.length_cons, flatI_len l]; omega
theorem flatI_at : ∀ (l : List Inc) (k : Nat) (i : Inc), l[k]? = some i → (flatI l)[k * 5]? = some (.int .i64 i.q) ∧ (flatI l)[k * 5 + 1]? = some (.int .i64 i.b) ∧ (flatI l)[k * 5 + 2]? = some (.int .i64 i.f) ∧ (flatI l)[k * 5 + 3]? = some (.int .i64 i.l) ∧ (flatI l)[k * 5 + 4]? = some (.int .i64 i.w)
  | [], k, f, h => by simp at h
  | g :: l, 0, f, h => by
    simp only [List.getElem?_cons_zero, Option.some.injEq] at h
    subst h
    exact ⟨rfl, rfl, rfl, rfl, rfl⟩
  | g :: l, k + 1, f, h => by
    simp only [List.getElem?_cons_succ] at h
    have := flatI_at l k f h
    rw [show (k + 1) * 5 = k * 5 + 1 + 1 + 1 + 1 + 1 by omega]
    exact this
theorem flatI_append : ∀ (l m : List Inc), flatI (l ++ m) = flatI l ++ flatI m
  | [], m => rfl
  | g :: l, m => by simp only [List.cons_append, flatI, flatI_append l m]
theorem one_flatI : ∀ l, ∀ u ∈ flatI l, u.oneCell' = true
  | [], u, h => by simp [flatI] at h
  | f :: l, u, h => by
    simp only [flatI, List.mem_cons] at h
    rcases h with rfl | rfl | rfl | rfl | rfl | h
    · rfl
    · rfl
    · rfl
    · rfl
    · rfl
    · exact one_flatI l u h
theorem inc_at {w : World} {A : Option Addr} {n : Nat} {l : List Inc} (h : Rd w A n 5 (flatI l)) {k : Nat} {i : Inc} (hk : l[k]? = some i) :
    ∃ b o, A = some ⟨b, o, none⟩ ∧ w.cell? ⟨b, o + k * 5, none⟩ = some (.int .i64 i.q) ∧ w.cell? ⟨b, o + k * 5 + 1, none⟩ = some (.int .i64 i.b) ∧ w.cell? ⟨b, o + k * 5 + 2, none⟩ = some (.int .i64 i.f) ∧ w.cell? ⟨b, o + k * 5 + 3, none⟩ = some (.int .i64 i.l) ∧ w.cell? ⟨b, o + k * 5 + 4, none⟩ = some (.int .i64 i.w) := by
  have hl := (List.getElem?_eq_some_iff.1 hk).1
  have h1 := h.1
  rw [flatI_len] at h1
  obtain ⟨b, o, rfl, hc⟩ := h.2 (by omega)
  obtain ⟨a1, a2, a3, a4, a5⟩ := flatI_at l k i hk
  exact ⟨b, o, rfl, hc _ _ a1, hc _ _ a2, hc _ _ a3, hc _ _ a4, hc _ _ a5⟩
theorem Try.elN : Elem Try.prog 25 24 (.agg #[.int .i64 0, .int .i64 0, .int .i64 0, .int .i64 0, .int .i64 0]) 5 40 := ⟨Try.underlying25, by kernel_rfl, rfl, by omega⟩
/-- a row and a block of another type -/
theorem own_blk_ne {w : World} {base g n c size b : Nat} {e t : TypeId} {xs : List Value} {cs : Array Value} (h : w.ownsRow base e size (.slice (some ⟨g, 0, none⟩) n c) n xs) (k : Blk w b t cs) (hne : e ≠ t) : g ≠ b := by
  rintro rfl
  rcases h.2 with ⟨h0, _⟩ | ⟨k', cap, cur, hv, _, hg, _⟩
  · simp at h0
  · simp only [Value.slice.injEq, Option.some.injEq, Addr.mk.injEq, and_true, true_and] at hv
    obtain ⟨rfl, _⟩ := hv
    unfold Blk at k
    rw [hg] at k
    injection k with k
    injection k with _ ht
    exact hne ht
theorem own_blk_ne' {w : World} {base n size b : Nat} {v : Value} {e t : TypeId} {xs : List Value} {cs : Array Value} (h : w.ownsRow base e size v n xs) (k : Blk w b t cs) (hne : e ≠ t) : v.ownBlock ≠ some b := by
  intro hv
  rcases h.2 with ⟨h0, _⟩ | ⟨k', cap, cur, hv2, _, hg, _⟩
  · subst h0; simp [Value.ownBlock] at hv
  · subst hv2
    simp only [Value.ownBlock, Option.some.injEq] at hv
    subst hv
    unfold Blk at k
    rw [hg] at k
    injection k with k
    injection k with _ ht
    exact hne ht

def incOf (p : Ch × Nat) : Inc := ⟨p.1.q, p.1.b, posI p.1.c 0, lastI p.1.c, p.2⟩
/-- what holds of the increments that are made -/
def GoodL (B : Nat) (l : List (Ch × Nat)) : Prop := ∀ (i : Nat) (p : Ch × Nat), l[i]? = some p → 3 * (i : Int) ≤ p.1.q ∧ p.1.q < 3 * (i : Int) + 3 ∧ 0 ≤ p.1.b ∧ p.1.b < 3 ∧ 0 < p.2 ∧ ceilN p.2 B = p.1.c.length
def chs (l : List (Ch × Nat)) : List Ch := (l.map (·.1)).reverse
theorem GoodL.snoc {B : Nat} {l : List (Ch × Nat)} {p : Ch × Nat} (h : GoodL B l) (h1 : 3 * (l.length : Int) ≤ p.1.q ∧ p.1.q < 3 * (l.length : Int) + 3 ∧ 0 ≤ p.1.b ∧ p.1.b < 3 ∧ 0 < p.2 ∧ ceilN p.2 B = p.1.c.length) : GoodL B (l ++ [p]) := by
  intro i q hq
  rcases Nat.lt_or_ge i l.length with hi | hi
  · rw [List.getElem?_append_left hi] at hq
    exact h i q hq
  · have hie : i = l.length := by have := (List.getElem?_eq_some_iff.1 hq).1; simp at this; omega
    subst hie
    rw [List.getElem?_append_right (Nat.le_refl _)] at hq
    simp only [Nat.sub_self, List.getElem?_cons_zero, Option.some.injEq] at hq
    subst hq
    exact h1
theorem chs_snoc (l : List (Ch × Nat)) (p : Ch × Nat) : chs (l ++ [p]) = p.1 :: chs l := by simp [chs]
theorem GoodL.notin {B : Nat} {l : List (Ch × Nat)} (h : GoodL B l) {q : Int} (hq : 3 * (l.length : Int) ≤ q) : q ∉ (chs l).map (·.q) := by
  intro hm
  simp only [chs, List.map_reverse, List.mem_reverse, List.map_map, List.mem_map] at hm
  obtain ⟨p, hp, rfl⟩ := hm
  obtain ⟨i, hi⟩ := List.mem_iff_getElem?.1 hp
  have h1 := h i p hi
  have h2 := (List.getElem?_eq_some_iff.1 hi).1
  simp only [Function.comp] at hq
  omega
theorem Chs.add {S : Sp} {L : List Ch} (h : Chs S L) {q b : Int} (h1 : 0 ≤ q) (h2 : q ≤ 4294967295) (h3 : 0 ≤ b) (h4 : b < 4) (hq : q ∉ L.map (·.q)) : Chs S (⟨q, b, []⟩ :: L) := by
  have hu : used (⟨q, b, []⟩ :: L) = used L := by simp [used]
  refine ⟨h.sh, h.n2, h.wl, ?_, ?_, ?_, ?_, ?_, ?_⟩
  · intro x hx
    rcases List.mem_cons.1 hx with rfl | hx
    · exact ⟨h1, h2, h3, h4⟩
    · exact h.ids x hx
  · simp only [List.map_cons]
    exact List.nodup_cons.2 ⟨hq, h.sq⟩
  · intro x hx p f hp
    rcases List.mem_cons.1 hx with rfl | hx
    · simp at hp
    · exact h.fr x hx p f hp
  · rw [hu]; exact h.nd
  · rw [hu]; exact h.free
  · rw [hu]; exact h.zero
theorem Chs.drop {S : Sp} {L : List Ch} {x : Ch} (h : Chs S (x :: L)) (hc : x.c = []) : Chs S L := by
  have hu : used (x :: L) = used L := by simp [used, hc]
  have hsq := h.sq
  simp only [List.map_cons] at hsq
  refine ⟨h.sh, h.n2, h.wl, fun y hy => h.ids y (List.mem_cons_of_mem _ hy), (List.nodup_cons.1 hsq).2, fun y hy => h.fr y (List.mem_cons_of_mem _ hy), ?_, ?_, ?_⟩
  · rw [← hu]; exact h.nd
  · rw [← hu]; exact h.free
  · rw [← hu]; exact h.zero
def RetSpace (d : Nat) (w : World) (r : Ending) (w' : World) : Prop :=
  ∃ (S : Sp) (gW cW gF cF : Nat) (l : List (Ch × Nat)) (A : Option Addr) (c B : Nat), r = .returned (.tuple #[.agg #[.int .i64 S.sh, .slice (some ⟨gW, 0, none⟩) S.ws.length cW, .slice (some ⟨gF, 0, none⟩) S.fs.length cF], .slice A l.length c]) ∧ 2 ^ S.sh = B ∧ Chs S (chs l) ∧ GoodL B l ∧ l.length ≤ 4 ∧
    SRd w' S (some ⟨gW, 0, none⟩) (some ⟨gF, 0, none⟩) ∧ Rd w' A l.length 5 (flatI (l.map incOf)) ∧ Dk w' d ∧ But [d] w w'
theorem fin_space {Q : Ending → World → Prop} {a : Act} {W : World} {g1 : Nat} {u0 u1 u2 t3 : Value} (hd : a.defers = []) (h6 : a.tmps[2]?.getD undef = .pointer (some ⟨g1, 0, none⟩)) (h7 : a.tmps[3]?.getD undef = t3)
    (k1 : Blk W g1 35 #[u0, u1, u2]) (hQ : Q (.returned (.tuple #[.agg #[u0, u1, u2], t3])) W) :
    bodyPost Try.prog Try.f13 Q Exit.ret a W := by
  have c1 := k1.cell
  exact bodyPost_ret (v := .tuple #[.agg #[u0, u1, u2], t3]) (by simp [results, Try.results13, go_sem, h6, h7, c1]) hd hQ
end Go.Proofs.Ytljkadpconghnaa
