/- What is reached: sets of nodes that are seen. Plain facts, no walk. -/
import Derived.Test.YtamghjilcfeheaaG
namespace Go.Proofs.Ytamghjilcfeheaa
open Go.RowKit Go.Draw

theorem count_mark : ∀ {s : List Bool} {i : Nat}, s[i]? = some false → (s.set i true).count false + 1 = s.count false
  | [], i, h => by simp at h
  | b :: s, 0, h => by simp at h; subst h; simp
  | b :: s, i + 1, h => by
    have := count_mark (s := s) (i := i) (by simpa using h)
    simp only [List.set_cons_succ, List.count_cons]; omega
theorem get_mark {s : List Bool} {x i : Nat} : (s.set x true)[i]? = some true ↔ (i = x ∧ x < s.length) ∨ s[i]? = some true := by
  by_cases h : x = i
  · subst h
    by_cases hl : x < s.length
    · simp [hl]
    · simp [hl]
  · rw [List.getElem?_set_ne h]
    constructor
    · exact Or.inr
    · rintro (⟨h1, _⟩ | h1)
      · exact absurd h1.symm h
      · exact h1

structure Snd (g : Gr) (s : List Bool) : Prop where
  len : s.length = g.ns.length
  snd : ∀ i, s[i]? = some true → Rch g i
def RootsIn (g : Gr) (s : List Bool) (k : Nat) : Prop := ∀ (i n : Nat), i < k → g.us[i]? = some true → g.rs[i]? = some (n : Int) → s[n]? = some true
def ClosedTo (g : Gr) (s : List Bool) (k : Nat) : Prop := ∀ (m n j : Nat) (x : List Int × List Int), m < k → s[m]? = some true → g.ns[m]? = some x → x.1[j]? = some (n : Int) → s[n]? = some true
theorem Snd.mark {g : Gr} {s : List Bool} (h : Snd g s) {x : Nat} (hx : Rch g x) : Snd g (s.set x true) :=
  ⟨by simpa using h.len, fun i hi => by
    rcases get_mark.1 hi with ⟨rfl, _⟩ | h1
    · exact hx
    · exact h.snd i h1⟩
theorem snd_none (g : Gr) : Snd g (List.replicate g.ns.length false) := ⟨by simp, fun i hi => by
  simp only [List.getElem?_replicate] at hi
  split at hi <;> cases hi⟩
theorem RootsIn.mark {g : Gr} {s : List Bool} {k : Nat} (h : RootsIn g s k) (x : Nat) : RootsIn g (s.set x true) k :=
  fun i n hi hu hr => get_mark.2 (.inr (h i n hi hu hr))
theorem RootsIn.next {g : Gr} {s : List Bool} {k : Nat} (h : RootsIn g s k) (hk : g.us[k]? = some true → ∀ n : Nat, g.rs[k]? = some (n : Int) → s[n]? = some true) : RootsIn g s (k + 1) :=
  fun i n hi hu hr => by
    rcases Nat.lt_or_ge i k with h1 | h1
    · exact h i n h1 hu hr
    · have : i = k := by omega
      subst this
      exact hk hu n hr
theorem ClosedTo.next {g : Gr} {s : List Bool} {k : Nat} (h : ClosedTo g s k) (hk : ∀ (n j : Nat) (x : List Int × List Int), s[k]? = some true → g.ns[k]? = some x → x.1[j]? = some (n : Int) → s[n]? = some true) : ClosedTo g s (k + 1) :=
  fun m n j x hm h1 h2 h3 => by
    rcases Nat.lt_or_ge m k with h4 | h4
    · exact h m n j x h4 h1 h2 h3
    · have : m = k := by omega
      subst this
      exact hk n j x h1 h2 h3
theorem reach_done {g : Gr} {s : List Bool} (h : Snd g s) (hr : RootsIn g s g.us.length) (hc : ClosedTo g s g.ns.length) (n : Nat) : s[n]? = some true ↔ Rch g n := by
  refine ⟨h.snd n, fun hn => ?_⟩
  induction hn with
  | root h1 h2 => exact hr _ _ (List.getElem?_eq_some_iff.1 h1).1 h1 h2
  | step _ h1 h2 ih => exact hc _ _ _ _ (List.getElem?_eq_some_iff.1 h1).1 ih h1 h2

/-- those of the first k that are seen -/
def seenTo (s : List Bool) (k : Nat) : List Nat := (List.range k).filter fun i => s.getD i false
theorem seenTo_yes {s : List Bool} {k : Nat} (h : s[k]? = some true) : seenTo s (k + 1) = seenTo s k ++ [k] := by
  unfold seenTo
  rw [List.range_succ, List.filter_append]
  simp [List.getD_eq_getElem?_getD, h]
theorem seenTo_no {s : List Bool} {k : Nat} (h : s[k]? = some false) : seenTo s (k + 1) = seenTo s k := by
  unfold seenTo
  rw [List.range_succ, List.filter_append]
  simp [List.getD_eq_getElem?_getD, h]
theorem seenTo_len (s : List Bool) (k : Nat) : (seenTo s k).length ≤ k := by
  have := List.length_filter_le (fun i => s.getD i false) (List.range k)
  simpa [seenTo] using this
theorem seenTo_all {g : Gr} {s : List Bool} (h : Snd g s) (hd : ∀ n, s[n]? = some true ↔ Rch g n) : seenTo s g.ns.length = reachL g := by
  unfold seenTo reachL
  apply List.filter_congr
  intro i hi
  have hl : i < s.length := by rw [h.len]; simpa using hi
  have h1 : s[i]? = some s[i] := List.getElem?_eq_getElem hl
  rw [List.getD_eq_getElem?_getD, h1, Option.getD_some]
  cases hs : s[i] with
  | true => exact (rchB_true.2 ((hd i).1 (by rw [h1, hs]))).symm
  | false =>
    cases hb : rchB g i with
    | false => rfl
    | true =>
      have := (hd i).2 (rchB_true.1 hb)
      rw [h1, hs] at this
      cases this
def nats (l : List Nat) : List Int := l.map Int.ofNat
theorem reachL_lt {g : Gr} {n : Nat} (h : n ∈ reachL g) : n < g.ns.length := by
  unfold reachL at h
  simpa using (List.mem_filter.1 h).1
theorem reachL_len (g : Gr) : (reachL g).length ≤ g.ns.length := by
  have := List.length_filter_le (rchB g) (List.range g.ns.length)
  simpa [reachL] using this
theorem sum_snoc (g : Gr) (l : List Nat) (n : Nat) : sumL g (l ++ [n]) = sumL g l + wordsOf (g.ns.getD n ([], [])) := by simp [sumL]
theorem sum_le {g : Gr} (hb : ∀ (i : Nat) (x : List Int × List Int), g.ns[i]? = some x → x.1.length ≤ 3000 ∧ x.2.length ≤ 3000) : ∀ l : List Nat, sumL g l ≤ 6001 * l.length
  | [] => by simp [sumL]
  | n :: l => by
    have ih := sum_le hb l
    have h1 : wordsOf (g.ns.getD n ([], [])) ≤ 6001 := by
      rw [List.getD_eq_getElem?_getD]
      cases hx : g.ns[n]? with
      | none => simp [wordsOf]
      | some x =>
        have := hb n x hx
        simp only [Option.getD_some, wordsOf]
        omega
    simp only [sumL, List.map_cons, List.sum_cons, List.length_cons] at ih ⊢
    omega
/-- a valid graph's references lie in it -/
theorem Rch.lt {g : Gr} (h : Vld g) {n : Nat} (hn : Rch g n) : n < g.ns.length := by
  cases hn with
  | root h1 h2 => have := (h.us _ _ h1 h2).2; omega
  | step _ h1 h2 => have := ((h.nd _ _ h1).2.2 _ _ h2).2; omega

/-- how many of the first n bools of a block are false -/
def isF : Value → Bool
  | .bool false => true
  | _ => false
def unseen (w : World) (b n : Nat) : Nat :=
  match w.heap[b]? with
  | some (.cells cs _ _) => (cs.toList.take n).countP isF
  | _ => 0
theorem vb_count : ∀ s : List Bool, (vb s).countP isF = s.count false
  | [] => rfl
  | b :: s => by
    have ih := vb_count s
    unfold vb at ih ⊢
    rw [List.map_cons, List.countP_cons, ih]
    cases b <;> simp [isF]
theorem unseen_own {w : World} {base b n c : Nat} {s : List Bool} (h : w.ownsRow base 4 1 (.slice (some ⟨b, 0, none⟩) n c) n (vb s)) : unseen w b n = s.count false := by
  rcases h.2 with ⟨h0, _⟩ | ⟨g, cap, cur, hv, _, hg, hnc, _, hcs, htake⟩
  · cases h0
  · simp only [Value.slice.injEq, Option.some.injEq, Addr.mk.injEq, and_true, true_and] at hv
    obtain ⟨rfl, _⟩ := hv
    unfold unseen
    rw [hg]
    simp only [Nat.mul_one] at htake
    simp only [htake]
    exact vb_count s
end Go.Proofs.Ytamghjilcfeheaa
