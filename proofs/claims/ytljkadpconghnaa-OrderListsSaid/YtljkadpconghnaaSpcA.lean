/- Spaces of frames and the chains of their increments, as plain data. Plain facts, no walk. -/
import Derived.Test.YtljkadpconghnaaMem
namespace Go.Proofs.Ytljkadpconghnaa
open Go.RowKit Go.Draw

/-- an entry of the frame table -/
structure Fr where
  o : Int
  s : Int
  n : Int
def freeF : Fr := ⟨-1, -1, -1⟩
def frs : List Fr → List Value
  | [] => []
  | f :: l => .int .i64 f.o :: .int .i64 f.s :: .int .i64 f.n :: frs l
theorem frs_len : ∀ l, (frs l).length = l.length * 3
  | [] => rfl
  | f :: l => by simp only [frs, List.length_cons, frs_len l]; omega
theorem frs_at : ∀ (l : List Fr) (i : Nat) (f : Fr), l[i]? = some f → (frs l)[i * 3]? = some (.int .i64 f.o) ∧ (frs l)[i * 3 + 1]? = some (.int .i64 f.s) ∧ (frs l)[i * 3 + 2]? = some (.int .i64 f.n)
  | [], i, f, h => by simp at h
  | g :: l, 0, f, h => by
    simp only [List.getElem?_cons_zero, Option.some.injEq] at h
    subst h
    exact ⟨rfl, rfl, rfl⟩
  | g :: l, i + 1, f, h => by
    simp only [List.getElem?_cons_succ] at h
    have := frs_at l i f h
    rw [show (i + 1) * 3 = i * 3 + 1 + 1 + 1 by omega]
    exact this
theorem frs_append : ∀ (l : List Fr) (f : Fr), frs (l ++ [f]) = frs l ++ [.int .i64 f.o, .int .i64 f.s, .int .i64 f.n]
  | [], f => rfl
  | g :: l, f => by simp only [List.cons_append, frs, frs_append l f]
theorem frs_set : ∀ (l : List Fr) (i : Nat) (f : Fr), frs (l.set i f) = (((frs l).set (i * 3) (.int .i64 f.o)).set (i * 3 + 1) (.int .i64 f.s)).set (i * 3 + 2) (.int .i64 f.n)
  | [], i, f => by simp [frs]
  | g :: l, 0, f => by simp [frs]
  | g :: l, i + 1, f => by
    simp only [List.set_cons_succ, frs]
    rw [show (i + 1) * 3 = i * 3 + 1 + 1 + 1 by omega]
    simp only [List.set_cons_succ]
    rw [frs_set l i f]
theorem frs_next : ∀ (l : List Fr) (i : Nat) (f : Fr) (z : Int), l[i]? = some f → (frs l).set (i * 3 + 2) (.int .i64 z) = frs (l.set i { f with n := z })
  | [], i, f, z, h => by simp at h
  | g :: l, 0, f, z, h => by
    simp only [List.getElem?_cons_zero, Option.some.injEq] at h
    subst h
    simp [frs]
  | g :: l, i + 1, f, z, h => by
    simp only [List.getElem?_cons_succ] at h
    rw [show (i + 1) * 3 + 2 = i * 3 + 2 + 1 + 1 + 1 by omega]
    simp only [List.set_cons_succ, frs]
    rw [frs_next l i f z h]
theorem one_frs : ∀ l, ∀ u ∈ frs l, u.oneCell' = true
  | [], u, h => by simp [frs] at h
  | f :: l, u, h => by
    simp only [frs, List.mem_cons] at h
    rcases h with rfl | rfl | rfl | h
    · rfl
    · rfl
    · rfl
    · exact one_frs l u h

structure Sp where
  sh : Nat
  ws : List Int
  fs : List Fr
/-- an increment's number, belt and frames -/
structure Ch where
  q : Int
  b : Int
  c : List Nat
def Ch.st (x : Ch) : Int := x.b * 4294967296 + x.q
/-- the frame at a place of a chain; -1 behind its end -/
def posI (c : List Nat) (m : Nat) : Int := match c[m]? with | some g => (g : Int) | none => -1
theorem posI_some {c : List Nat} {m g : Nat} (h : c[m]? = some g) : posI c m = (g : Int) := by unfold posI; rw [h]
theorem posI_none {c : List Nat} {m : Nat} (h : c.length ≤ m) : posI c m = -1 := by unfold posI; rw [List.getElem?_eq_none h]
theorem posI_cases (c : List Nat) (m : Nat) : (∃ g, c[m]? = some g ∧ posI c m = (g : Int)) ∨ (c.length ≤ m ∧ posI c m = -1) := by
  rcases Nat.lt_or_ge m c.length with h | h
  · exact .inl ⟨c[m], List.getElem?_eq_getElem h, posI_some (List.getElem?_eq_getElem h)⟩
  · exact .inr ⟨h, posI_none h⟩
def lastI (c : List Nat) : Int := posI c (c.length - 1)
/-- all frames that are in use -/
def used (L : List Ch) : List Nat := L.flatMap (·.c)

/-- the frames of S are those of the chains L, and free ones, whose words are zero -/
structure Chs (S : Sp) (L : List Ch) : Prop where
  sh : 3 ≤ S.sh ∧ S.sh ≤ 8
  n2 : 2 ≤ S.fs.length ∧ S.fs.length ≤ 64
  wl : S.ws.length = S.fs.length * 2 ^ S.sh
  ids : ∀ x ∈ L, 0 ≤ x.q ∧ x.q ≤ 4294967295 ∧ 0 ≤ x.b ∧ x.b < 4
  sq : (L.map (·.q)).Nodup
  fr : ∀ x ∈ L, ∀ p f : Nat, x.c[p]? = some f → S.fs[f]? = some (⟨x.q, x.st, posI x.c (p + 1)⟩ : Fr)
  nd : (used L).Nodup
  free : ∀ f, f < S.fs.length → f ∉ used L → S.fs[f]? = some freeF
  zero : ∀ f, f < S.fs.length → f ∉ used L → ∀ j, j < 2 ^ S.sh → S.ws[f * 2 ^ S.sh + j]? = some 0

section
variable {S : Sp} {L : List Ch}
theorem mem_used {f : Nat} : f ∈ used L ↔ ∃ x ∈ L, ∃ p : Nat, x.c[p]? = some f := by
  unfold used
  rw [List.mem_flatMap]
  constructor
  · rintro ⟨x, hx, hf⟩
    obtain ⟨p, hp⟩ := List.mem_iff_getElem?.1 hf
    exact ⟨x, hx, p, hp⟩
  · rintro ⟨x, hx, p, hp⟩
    exact ⟨x, hx, List.mem_of_getElem? hp⟩
theorem Chs.lt (h : Chs S L) {x : Ch} (hx : x ∈ L) {p f : Nat} (hp : x.c[p]? = some f) : f < S.fs.length := (List.getElem?_eq_some_iff.1 (h.fr x hx p f hp)).1
theorem Chs.used_lt (h : Chs S L) {f : Nat} (hf : f ∈ used L) : f < S.fs.length := by
  obtain ⟨x, hx, p, hp⟩ := mem_used.1 hf
  exact h.lt hx hp
theorem nodup_of_mem {x : Ch} (hx : x ∈ L) (h : (used L).Nodup) : x.c.Nodup := by
  obtain ⟨A, B, rfl⟩ := List.append_of_mem hx
  simp only [used, List.flatMap_append, List.flatMap_cons] at h
  exact (List.nodup_append.1 (List.nodup_append.1 h).2.1).1
theorem nodup_at {l : List Nat} (h : l.Nodup) {i j f : Nat} (hi : l[i]? = some f) (hj : l[j]? = some f) : i = j := by
  obtain ⟨h1, h2⟩ := List.getElem?_eq_some_iff.1 hi
  obtain ⟨h3, h4⟩ := List.getElem?_eq_some_iff.1 hj
  exact (List.getElem_inj h).1 (h2.trans h4.symm)
theorem same_of {α : Type} [DecidableEq α] {g : Ch → α} (hq : (L.map g).Nodup) {x y : Ch} (hx : x ∈ L) (hy : y ∈ L) (h : g x = g y) : x = y := by
  obtain ⟨i, hi⟩ := List.mem_iff_getElem?.1 hx
  obtain ⟨j, hj⟩ := List.mem_iff_getElem?.1 hy
  have h1 : (L.map g)[i]? = some (g x) := by rw [List.getElem?_map, hi]; rfl
  have h2 : (L.map g)[j]? = some (g x) := by rw [List.getElem?_map, hj, h]; rfl
  obtain ⟨a1, a2⟩ := List.getElem?_eq_some_iff.1 h1
  obtain ⟨b1, b2⟩ := List.getElem?_eq_some_iff.1 h2
  have : i = j := (List.getElem_inj hq).1 (a2.trans b2.symm)
  subst this
  rw [hi] at hj
  injection hj
theorem Chs.same (h : Chs S L) {x y : Ch} (hx : x ∈ L) (hy : y ∈ L) (hq : x.q = y.q) : x = y := same_of (g := (·.q)) h.sq hx hy hq
theorem nodup_flat : ∀ {L : List Ch} {x y : Ch} {f : Nat}, (used L).Nodup → x ∈ L → y ∈ L → f ∈ x.c → f ∈ y.c → x = y
  | [], _, _, _, _, hx, _, _, _ => by simp at hx
  | z :: L, x, y, f, h, hx, hy, fx, fy => by
    simp only [used, List.flatMap_cons] at h
    obtain ⟨h1, h2, h3⟩ := List.nodup_append.1 h
    rcases List.mem_cons.1 hx with rfl | hx' <;> rcases List.mem_cons.1 hy with rfl | hy'
    · rfl
    · exact absurd rfl (h3 f fx f (List.mem_flatMap.2 ⟨y, hy', fy⟩))
    · exact absurd rfl (h3 f fy f (List.mem_flatMap.2 ⟨x, hx', fx⟩))
    · exact nodup_flat h2 hx' hy' fx fy
/-- a list of numbers below n without a double has n members at most -/
theorem len_le : ∀ (n : Nat) (l : List Nat), l.Nodup → (∀ x ∈ l, x < n) → l.length ≤ n
  | 0, [], _, _ => by simp
  | 0, x :: l, _, h => absurd (h x (by simp)) (by omega)
  | n + 1, l, hl, h => by
    by_cases hn : n ∈ l
    · have h1 := len_le n (l.erase n) (hl.erase n) (fun x hx => by
        have h2 := h x (List.mem_of_mem_erase hx)
        have h3 : x ≠ n := fun e => by subst e; exact hl.not_mem_erase hx
        omega)
      rw [List.length_erase_of_mem hn] at h1
      omega
    · have h1 := len_le n l hl (fun x hx => by
        have h2 := h x hx
        have h3 : x ≠ n := fun e => by subst e; exact hn hx
        omega)
      omega
theorem Chs.len_used (h : Chs S L) : (used L).length ≤ S.fs.length := len_le _ _ h.nd (fun _ hf => h.used_lt hf)
theorem Chs.len_ch (h : Chs S L) {x : Ch} (hx : x ∈ L) : x.c.length ≤ S.fs.length := len_le _ _ (nodup_of_mem hx h.nd) (fun f hf => h.used_lt (List.mem_flatMap.2 ⟨x, hx, hf⟩))
/-- each frame stands in a list that its links run through -/
theorem Chs.run (h : Chs S L) {f : Nat} (hf : f < S.fs.length) : ∃ (c : List Nat) (p : Nat), c[p]? = some f ∧ c.length ≤ S.fs.length ∧ ∀ m g, c[m]? = some g → ∃ F, S.fs[g]? = some F ∧ F.n = posI c (m + 1) := by
  by_cases hu : f ∈ used L
  · obtain ⟨x, hx, p, hp⟩ := mem_used.1 hu
    exact ⟨x.c, p, hp, h.len_ch hx, fun m g hg => ⟨_, h.fr x hx m g hg, rfl⟩⟩
  · refine ⟨[f], 0, rfl, by have := h.n2.1; simp; omega, fun m g hg => ?_⟩
    match m, hg with
    | 0, hg =>
      simp only [List.getElem?_cons_zero, Option.some.injEq] at hg
      subst hg
      exact ⟨freeF, h.free f hf hu, rfl⟩
/-- the links part -/
theorem Chs.inj (h : Chs S L) {i j : Nat} {F G : Fr} (hi : S.fs[i]? = some F) (hj : S.fs[j]? = some G) (he : F.n = G.n) (hn : 0 ≤ F.n) : i = j := by
  have hil := (List.getElem?_eq_some_iff.1 hi).1
  have hjl := (List.getElem?_eq_some_iff.1 hj).1
  have hu : ∀ k K, S.fs[k]? = some K → 0 ≤ K.n → k ∈ used L := by
    intro k K hk h0
    apply Classical.byContradiction
    intro hc
    have := h.free k (List.getElem?_eq_some_iff.1 hk).1 hc
    rw [hk] at this
    injection this with this
    subst this
    simp [freeF] at h0
  obtain ⟨x, hx, p, hp⟩ := mem_used.1 (hu i F hi hn)
  obtain ⟨y, hy, r, hr⟩ := mem_used.1 (hu j G hj (by omega))
  have e1 := h.fr x hx p i hp
  have e2 := h.fr y hy r j hr
  rw [hi] at e1; rw [hj] at e2
  injection e1 with e1; injection e2 with e2
  have n1 : F.n = posI x.c (p + 1) := by rw [e1]
  have n2 : G.n = posI y.c (r + 1) := by rw [e2]
  rcases posI_cases x.c (p + 1) with ⟨g, hg, hgI⟩ | ⟨_, hgI⟩
  · rcases posI_cases y.c (r + 1) with ⟨g', hg', hgI'⟩ | ⟨_, hgI'⟩
    · have : g = g' := by omega
      subst this
      have := nodup_flat h.nd hx hy (List.mem_of_getElem? hg) (List.mem_of_getElem? hg')
      subst this
      have := nodup_at (nodup_of_mem hx h.nd) hg hg'
      obtain rfl : p = r := by omega
      rw [hp] at hr
      injection hr
    · omega
  · omega
theorem Chs.link (h : Chs S L) {i : Nat} {F : Fr} (hi : S.fs[i]? = some F) (hn : F.n ≠ -1) : ∃ (g : Nat) (G : Fr), F.n = (g : Int) ∧ g ≠ i ∧ S.fs[g]? = some G ∧ G.o = F.o ∧ G.s = F.s := by
  have hil := (List.getElem?_eq_some_iff.1 hi).1
  by_cases hu : i ∈ used L
  · obtain ⟨x, hx, p, hp⟩ := mem_used.1 hu
    have e1 := h.fr x hx p i hp
    rw [hi] at e1
    injection e1 with e1
    subst e1
    rcases posI_cases x.c (p + 1) with ⟨g, hg, hgI⟩ | ⟨_, hgI⟩
    · refine ⟨g, _, hgI, fun e => ?_, h.fr x hx _ g hg, rfl, rfl⟩
      subst e
      have := nodup_at (nodup_of_mem hx h.nd) hp hg
      omega
    · exact absurd hgI hn
  · have := h.free i hil hu
    rw [hi] at this
    injection this with this
    subst this
    exact absurd rfl hn
/-- a frame is a free one, or one of an increment -/
theorem Chs.cases (h : Chs S L) {i : Nat} {F : Fr} (hi : S.fs[i]? = some F) : (F = freeF ∧ i ∉ used L) ∨ (∃ x ∈ L, ∃ p, x.c[p]? = some i ∧ F = ⟨x.q, x.st, posI x.c (p + 1)⟩) := by
  have hil := (List.getElem?_eq_some_iff.1 hi).1
  by_cases hu : i ∈ used L
  · obtain ⟨x, hx, p, hp⟩ := mem_used.1 hu
    have e1 := h.fr x hx p i hp
    rw [hi] at e1
    injection e1 with e1
    exact .inr ⟨x, hx, p, hp, e1⟩
  · have := h.free i hil hu
    rw [hi] at this
    injection this with this
    exact .inl ⟨this, hu⟩
end
end Go.Proofs.Ytljkadpconghnaa
