/-
  Slices that read as lists, rows of a call's own, append and make: small laws over any program, for the walks of this seat. Nothing here names a program.
-/
import Derived.Test.YtljkadpconghnaaDraw
import Derived.OwnWalk
import Derived.Maps.AppendAt
import Derived.Deep.AppendLies
import Derived.WalkKit
namespace Go.Draw
open Go.RowKit

/-- the slice value '.slice A n c' reads as the cells xs, 'size' cells an element; A is asked for only where there is an element -/
def Rd (w : World) (A : Option Addr) (n size : Nat) (xs : List Value) : Prop :=
  xs.length = n * size ∧ (0 < n → ∃ b o, A = some ⟨b, o, none⟩ ∧ ∀ j u, xs[j]? = some u → w.cell? ⟨b, o + j, none⟩ = some u)

section
variable {w w' : World} {A : Option Addr} {n size : Nat} {xs : List Value}

theorem cell_lt {b o : Nat} {u : Value} (h : w.cell? ⟨b, o, none⟩ = some u) : b < w.heap.size := by
  rcases Nat.lt_or_ge b w.heap.size with hlt | hge
  · exact hlt
  · simp [World.cell?, Array.getElem?_eq_none hge] at h

theorem cell_ext (he : Ext w w') {b o : Nat} {u : Value} (h : w.cell? ⟨b, o, none⟩ = some u) : w'.cell? ⟨b, o, none⟩ = some u := by
  rw [he.cell b o (by rw [h]; rfl)]; exact h

theorem cell_but {S : List Nat} (he : But S w w') {b o : Nat} (hb : b ∉ S) {u : Value} (h : w.cell? ⟨b, o, none⟩ = some u) : w'.cell? ⟨b, o, none⟩ = some u := by
  rw [he.cell b o hb (by rw [h]; rfl)]; exact h

/-- block b is just the cells cs, none of them frozen -/
def Blk (w : World) (b : Nat) (t : TypeId) (cs : Array Value) : Prop := w.heap[b]? = some (.cells cs t (0, 0))
theorem Blk.lt {b : Nat} {t : TypeId} {cs : Array Value} (h : Blk w b t cs) : b < w.heap.size := by
  rcases Nat.lt_or_ge b w.heap.size with hlt | hge
  · exact hlt
  · unfold Blk at h; rw [Array.getElem?_eq_none hge] at h; cases h
theorem Blk.cell {b : Nat} {t : TypeId} {cs : Array Value} (h : Blk w b t cs) (i : Nat) : w.cell? ⟨b, i, none⟩ = cs[i]? := cell_of_row w b i cs t (0, 0) h
theorem Blk.froz {b : Nat} {t : TypeId} {cs : Array Value} (h : Blk w b t cs) (i : Nat) : w.frozen? ⟨b, i, none⟩ = false := by
  unfold Blk at h; simp [World.frozen?, h]
theorem Blk.new {b : Nat} {t : TypeId} {cs : Array Value} (h : b = w.heap.size) : Blk (w.alloc (.cells cs t)) b t cs := by subst h; exact heap_alloc_new w _
theorem Blk.alloc {b : Nat} {t : TypeId} {cs : Array Value} (h : Blk w b t cs) (o : Obj) : Blk (w.alloc o) b t cs := (Below.heap_alloc w o b h.lt).trans h
theorem Blk.drew {b : Nat} {t : TypeId} {cs : Array Value} (h : Blk w b t cs) : Blk w.drew b t cs := h
theorem Blk.ext {b : Nat} {t : TypeId} {cs : Array Value} (h : Blk w b t cs) (he : Ext w w') : Blk w' b t cs := (he.block b h.lt).trans h
theorem Blk.but {S : List Nat} {b : Nat} {t : TypeId} {cs : Array Value} (h : Blk w b t cs) (he : But S w w') (hb : b ∉ S) : Blk w' b t cs := (he.block b h.lt hb).trans h
theorem Blk.set_ {b : Nat} {t : TypeId} {cs : Array Value} (h : Blk w b t cs) (i : Nat) (u : Value) : Blk (w.setCell ⟨b, i, none⟩ u) b t (cs.setIfInBounds i u) := by
  unfold Blk at h ⊢
  simp [World.setCell, Array.getElem?_modify, h]
theorem Blk.far {b : Nat} {t : TypeId} {cs : Array Value} (h : Blk w b t cs) {p : Addr} (hp : b ≠ p.block) (u : Value) : Blk (w.setCell p u) b t cs := (Below.heap_setCell w p u b hp).trans h
theorem Blk.ne_ {b b' : Nat} {t t' : TypeId} {cs cs' : Array Value} (h : Blk w b t cs) (h' : Blk w b' t' cs') (hne : t ≠ t') : b ≠ b' := by
  rintro rfl
  unfold Blk at h h'
  rw [h] at h'
  injection h' with h'
  injection h' with _ ht
  exact hne ht

theorem Rd.nil_ (w : World) (A : Option Addr) (size : Nat) : Rd w A 0 size [] := ⟨by simp, fun h => absurd h (by omega)⟩

theorem Rd.ext (h : Rd w A n size xs) (he : Ext w w') : Rd w' A n size xs :=
  ⟨h.1, fun hn => by
    obtain ⟨b, o, hA, hc⟩ := h.2 hn
    exact ⟨b, o, hA, fun j u hu => cell_ext he (hc j u hu)⟩⟩

theorem Rd.drew (h : Rd w A n size xs) : Rd w.drew A n size xs := h

theorem Rd.but {S : List Nat} (h : Rd w A n size xs) (he : But S w w') (hS : ∀ ad, A = some ad → ad.block ∉ S) : Rd w' A n size xs :=
  ⟨h.1, fun hn => by
    obtain ⟨b, o, hA, hc⟩ := h.2 hn
    exact ⟨b, o, hA, fun j u hu => cell_but he (hS _ hA) (hc j u hu)⟩⟩

theorem Rd.at_ (h : Rd w A n 1 xs) {k : Nat} (hk : k < n) : ∃ b o u, A = some ⟨b, o, none⟩ ∧ xs[k]? = some u ∧ w.cell? ⟨b, o + k, none⟩ = some u := by
  obtain ⟨b, o, hA, hc⟩ := h.2 (by omega)
  have hl : k < xs.length := by have := h.1; omega
  exact ⟨b, o, xs[k], hA, List.getElem?_eq_getElem hl, hc k _ (List.getElem?_eq_getElem hl)⟩

theorem Rd.lt (h : Rd w A n size xs) (hs : 0 < size) (hn : 0 < n) : ∃ b o, A = some ⟨b, o, none⟩ ∧ b < w.heap.size := by
  obtain ⟨b, o, hA, hc⟩ := h.2 hn
  have hl : 0 < xs.length := by rw [h.1]; exact Nat.mul_pos hn hs
  exact ⟨b, o, hA, cell_lt (hc 0 _ (List.getElem?_eq_getElem hl))⟩

theorem addr_add (b o j : Nat) : (⟨b, o, none⟩ : Addr).add j = ⟨b, o + j, none⟩ := by
  unfold Addr.add
  split
  · rename_i h; subst h; rfl
  · rfl

/-- what a call owns reads -/
theorem Rd.of_own {base : Nat} {e : TypeId} {c : Nat} (h : w.ownsRow base e size (.slice A n c) n xs) : Rd w A n size xs := by
  refine ⟨h.1, fun hn => ?_⟩
  rcases h.2 with ⟨_, h0⟩ | ⟨g, cap, cur, hv, _, hg, hnc, _, hcs, htake⟩
  · omega
  · simp only [Value.slice.injEq] at hv
    obtain ⟨hA, _, _⟩ := hv
    subst hA
    refine ⟨g, 0, rfl, fun j u hu => ?_⟩
    rw [Nat.zero_add, cell_of_row w g j cur e (0, 0) hg]
    rw [← htake, List.getElem?_take] at hu
    split at hu
    · simpa using hu
    · cases hu

/-- a row of the call's own, its address spelled out -/
theorem own_form {base : Nat} {e : TypeId} {c : Nat} (h : w.ownsRow base e size (.slice A n c) n xs) (hn : 0 < n) : ∃ g, A = some ⟨g, 0, none⟩ ∧ base ≤ g ∧ g < w.heap.size := by
  rcases h.2 with ⟨_, h0⟩ | ⟨g, cap, cur, hv, hb, hg, _⟩
  · omega
  · simp only [Value.slice.injEq] at hv
    refine ⟨g, hv.1, hb, ?_⟩
    rcases Nat.lt_or_ge g w.heap.size with hlt | hge
    · exact hlt
    · rw [Array.getElem?_eq_none hge] at hg; cases hg

theorem own_nil (w : World) (base : Nat) (e : TypeId) (size : Nat) : w.ownsRow base e size (.slice none 0 0) 0 [] := ⟨by simp, .inl ⟨rfl, rfl⟩⟩

theorem own_ext {base : Nat} {e : TypeId} {v : Value} (h : w.ownsRow base e size v n xs) (he : Ext w w') : w'.ownsRow base e size v n xs := by
  refine ⟨h.1, ?_⟩
  rcases h.2 with h0 | ⟨g, cap, cur, hv, hb, hg, r⟩
  · exact .inl h0
  · refine .inr ⟨g, cap, cur, hv, hb, ?_, r⟩
    rw [he.block g ?_]
    · exact hg
    · rcases Nat.lt_or_ge g w.heap.size with hlt | hge
      · exact hlt
      · rw [Array.getElem?_eq_none hge] at hg; cases hg

theorem own_but {base : Nat} {e : TypeId} {v : Value} {S : List Nat} (h : w.ownsRow base e size v n xs) (he : But S w w') (hS : ∀ g, v.ownBlock = some g → g ∉ S) : w'.ownsRow base e size v n xs := by
  refine ⟨h.1, ?_⟩
  rcases h.2 with h0 | ⟨g, cap, cur, hv, hb, hg, r⟩
  · exact .inl h0
  · refine .inr ⟨g, cap, cur, hv, hb, ?_, r⟩
    rw [he.block g ?_ (hS g (by rw [hv]; rfl))]
    · exact hg
    · rcases Nat.lt_or_ge g w.heap.size with hlt | hge
      · exact hlt
      · rw [Array.getElem?_eq_none hge] at hg; cases hg

theorem own_below {base : Nat} {e : TypeId} {v : Value} (h : w.ownsRow base e size v n xs) {p : Addr} (hp : p.block < base) (u : Value) : (w.setCell p u).ownsRow base e size v n xs := ownsRow_setCell_below h hp u
theorem own_other {base : Nat} {e : TypeId} {g c : Nat} (h : w.ownsRow base e size (.slice (some ⟨g, 0, none⟩) n c) n xs) {p : Addr} (hp : g ≠ p.block) (u : Value) : (w.setCell p u).ownsRow base e size (.slice (some ⟨g, 0, none⟩) n c) n xs :=
  h.kept (row := some p.block) ⟨rfl, rfl, rfl, by simp [World.setCell], fun k _ hk => Below.heap_setCell _ _ _ _ (fun e => hk (by rw [e]))⟩ (.inr (by simp only [Value.ownBlock]; intro e; injection e with e; exact hp e))
theorem own_set {base : Nat} {e : TypeId} {g c : Nat} (h : w.ownsRow base e size (.slice (some ⟨g, 0, none⟩) n c) n xs) (j : Nat) (u : Value) : (w.setCell ⟨g, j, none⟩ u).ownsRow base e size (.slice (some ⟨g, 0, none⟩) n c) n (xs.set j u) := (h.stored j u).1
theorem own_alloc {base : Nat} {e : TypeId} {v : Value} (h : w.ownsRow base e size v n xs) (o : Obj) : (w.alloc o).ownsRow base e size v n xs := h.alloc o
theorem own_drew {base : Nat} {e : TypeId} {v : Value} (h : w.ownsRow base e size v n xs) : w.drew.ownsRow base e size v n xs := h

theorem own_base {base base' : Nat} {e : TypeId} {v : Value} (h : w.ownsRow base e size v n xs) (hb : base' ≤ base) : w.ownsRow base' e size v n xs := by
  refine ⟨h.1, ?_⟩
  rcases h.2 with h0 | ⟨g, cap, cur, hv, hbg, r⟩
  · exact .inl h0
  · exact .inr ⟨g, cap, cur, hv, by omega, r⟩

theorem own_cells {base : Nat} {e : TypeId} {g c : Nat} (h : w.ownsRow base e size (.slice (some ⟨g, 0, none⟩) n c) n xs) : (∀ j u, xs[j]? = some u → w.cell? ⟨g, j, none⟩ = some u) ∧ ∀ j, w.frozen? ⟨g, j, none⟩ = false :=
  ⟨fun j u hu => by
    have hj : j < n * size := by
      have := (List.getElem?_eq_some_iff.1 hu).1
      rw [h.1] at this; exact this
    rw [h.cellAt j hj]; exact hu, h.frozenAt⟩

/-- rows of different element types lie in different blocks -/
theorem own_ne {base base' : Nat} {e e' : TypeId} {size' n' c c' g g' : Nat} {xs' : List Value} (h : w.ownsRow base e size (.slice (some ⟨g, 0, none⟩) n c) n xs) (h' : w.ownsRow base' e' size' (.slice (some ⟨g', 0, none⟩) n' c') n' xs') (hne : e ≠ e') : g ≠ g' := by
  rintro rfl
  rcases h.2 with ⟨h0, _⟩ | ⟨k, cap, cur, hv, _, hg, _⟩
  · simp at h0
  · rcases h'.2 with ⟨h0, _⟩ | ⟨k', cap', cur', hv', _, hg', _⟩
    · simp at h0
    · simp only [Value.slice.injEq, Option.some.injEq, Addr.mk.injEq, and_true, true_and] at hv hv'
      obtain ⟨rfl, _⟩ := hv
      obtain ⟨rfl, _⟩ := hv'
      rw [hg] at hg'
      injection hg' with hg'
      injection hg' with _ ht
      exact hne ht

theorem ext_of_grown {v : Value} (h : w.grownBy w' v.ownBlock) (hv : v = .slice none 0 0) : Ext w w' := by
  subst hv
  exact ⟨h.os, h.tape, h.output, h.size, fun k hk => h.block k hk (by simp [Value.ownBlock])⟩

theorem but_of_grown {g : Nat} (h : w.grownBy w' (some g)) : But [g] w w' :=
  ⟨h.os, h.tape, h.output, h.size, fun k hk hn => h.block k hk (fun e => hn (by injection e with e; simp [e]))⟩

/-- behind an append onto a row of the call's own (base: where the call began): what was there when it began stands -/
theorem ext_grown {a : World} {base : Nat} {e : TypeId} {v : Value} (h : Ext a w) (hg : w.grownBy w' v.ownBlock) (hown : w.ownsRow base e size v n xs) (hb : a.heap.size ≤ base) : Ext a w' :=
  Below.grown h hg h.size fun k hk => by
    have := (World.ownsRow.lt hown k hk).1
    omega
end

section
variable {P : Program} {w : World}

theorem run_append_rd (base : Nat) (t ty e : TypeId) (i : TypeInfo) (z : Value) (size bytes : Nat) (ht : P.underlying t = some (.slice e)) (hi : P.info? e = some i) (hz : i.zero = some z)
    (hsize : i.size = size) (hby : i.bytes = bytes) (hzs : z.cells.size = size) (hsz : 0 < size)
    (v : Value) (n : Nat) (xs : List Value) (hown : w.ownsRow base e size v n xs)
    (A : Option Addr) (m c : Nat) (news : List Value) (hr : Rd w A m size news) (h1 : ∀ u ∈ news, u.oneCell' = true)
    (h63 : n + m ≤ maxLen) (hbytes : (n + m) * bytes ≤ 140737488355328) (hbase : base ≤ w.heap.size) :
    ∃ v' w', (Builtin.append_ #[t, t] ty #[v, .slice A m c]).run P w = .ok v' w' ∧ w'.ownsRow base e size v' (n + m) (xs ++ news) ∧ w.grownBy w' v.ownBlock ∧
      (v'.ownBlock = v.ownBlock ∨ v'.ownBlock = some w.heap.size) := by
  cases A with
  | some ad =>
    have hcells : ∀ j u, news[j]? = some u → w.cell? (ad.add j) = some u := by
      intro j u hu
      rcases Nat.eq_zero_or_pos m with h0 | h0
      · have hn : news = [] := List.eq_nil_of_length_eq_zero (by rw [hr.1, h0]; simp)
        subst hn
        simp at hu
      · obtain ⟨b, o, hA, hc⟩ := hr.2 h0
        injection hA with hA
        subst hA
        rw [addr_add]
        exact hc j u hu
    obtain ⟨v', w', hrun, h2, h3, _, h5⟩ := run_append_own_at (P := P) w base t ty e i z size bytes ht hi hz hsize hby hzs hsz v n xs hown ad m c news hr.1 hcells h1 h63 hbytes hbase
    exact ⟨v', w', hrun, h2, h3, h5⟩
  | none =>
    have hm : m = 0 := by
      rcases Nat.eq_zero_or_pos m with h0 | h0
      · exact h0
      · obtain ⟨b, o, hA, _⟩ := hr.2 h0
        cases hA
    subst hm
    have hn : news = [] := List.eq_nil_of_length_eq_zero (by rw [hr.1]; simp)
    subst hn
    have hrun : (Builtin.append_ #[t, t] ty #[v, .slice none 0 c]).run P w = .ok v w := by
      rcases hown.2 with ⟨rfl, rfl⟩ | ⟨g, cap, cur, rfl, _, _, hnc, _⟩
      · simp [Builtin.append_, run_underlying ht, sizeOf, typeInfo, hi, Builtin.lenOf, Builtin.firstCells]
      · simp [Builtin.append_, run_underlying ht, sizeOf, typeInfo, hi, Builtin.lenOf, Builtin.firstCells, hnc, storeCells]
    exact ⟨v, w, hrun, by simpa using hown, World.grownBy.refl w _, .inl rfl⟩

/-- what the program's table says of a slice type t with elements of type e -/
structure Elem (P : Program) (t e : TypeId) (z : Value) (size bytes : Nat) : Prop where
  ht : P.underlying t = some (.slice e)
  ex : (P.info? e).map (fun i => (i.zero, i.size, i.bytes)) = some (some z, size, bytes)
  hzs : z.cells.size = size
  hsz : 0 < size

/-- append, at the operation: onto a row of the call's own, from whatever reads -/
theorem wp_append {o : Oper} {a : Act} {K : Act → World → Prop} {Q : Exit → Act → World → Prop} {t e : TypeId} {z : Value} {size bytes : Nat} (E : Elem P t e z size bytes) (s x : Operand)
    (ho : o.op = .call { callee := .builtin .append, args := #[s, x], argTypes := #[t, t] })
    (base : Nat) (v : Value) (n : Nat) (xs : List Value) (hs : a.eval s = v) (hown : w.ownsRow base e size v n xs)
    (A : Option Addr) (m c : Nat) (news : List Value) (hx : a.eval x = .slice A m c) (hr : Rd w A m size news) (h1 : ∀ u ∈ news, u.oneCell' = true)
    (hbd : n + m ≤ 1000000) (hby : bytes ≤ 1000) (hbase : base ≤ w.heap.size)
    (h : ∀ A' c' w', w'.ownsRow base e size (.slice A' (n + m) c') (n + m) (xs ++ news) → w.grownBy w' v.ownBlock → ((Value.slice A' (n + m) c').ownBlock = v.ownBlock ∨ (Value.slice A' (n + m) c').ownBlock = some w.heap.size) → K (a.put o.dst (.slice A' (n + m) c')) w') : o.wp P a w K Q := by
  obtain ⟨i, hi, hz, hsize, hbytes⟩ := info_parts E.ex
  have hmb : (n + m) * bytes ≤ 1000000 * 1000 := Nat.mul_le_mul hbd hby
  obtain ⟨v', w', hrun, h2, h3, h4⟩ := run_append_rd (P := P) base t o.type e i z size bytes E.ht hi hz hsize hbytes E.hzs E.hsz v n xs hown A m c news hr h1 (by simp only [maxLen]; omega) (by omega) hbase
  unfold Oper.wp execOp
  simp only [ho, resolve, invoke, builtin, Sem.run_bind, Sem.run_pure, Result.andThen_ok, List.map_toArray, List.map_cons, List.map_nil, hs, hx, hrun]
  have hform : ∃ A' c', v' = .slice A' (n + m) c' := by
    rcases h2.2 with ⟨h0, hz0⟩ | ⟨g, cap, cur, hv, _⟩
    · exact ⟨none, 0, by rw [h0, hz0]⟩
    · exact ⟨_, cap, hv⟩
  obtain ⟨A', c', rfl⟩ := hform
  exact h A' c' w' h2 h3 h4

/-- append([]T(nil), x...): a copy of its own -/
theorem wp_clone {o : Oper} {a : Act} {K : Act → World → Prop} {Q : Exit → Act → World → Prop} {t e : TypeId} {z : Value} {size bytes : Nat} (E : Elem P t e z size bytes) (s x : Operand)
    (ho : o.op = .call { callee := .builtin .append, args := #[s, x], argTypes := #[t, t] }) (hs : a.eval s = .slice none 0 0)
    (base : Nat) (A : Option Addr) (m c : Nat) (news : List Value) (hx : a.eval x = .slice A m c) (hr : Rd w A m size news) (h1 : ∀ u ∈ news, u.oneCell' = true)
    (hbd : m ≤ 1000000) (hby : bytes ≤ 1000) (hbase : base ≤ w.heap.size)
    (h : ∀ A' c' w', w'.ownsRow base e size (.slice A' m c') m news → Ext w w' → K (a.put o.dst (.slice A' m c')) w') : o.wp P a w K Q := by
  refine wp_append E s x ho base _ 0 [] hs (own_nil w base e size) A m c news hx hr h1 (by omega) hby hbase ?_
  intro A' c' w' h2 h3 _
  simp only [Nat.zero_add, List.nil_append] at h2 ⊢
  exact h A' c' w' h2 (ext_of_grown h3 rfl)

section
variable {ops : Array Oper} {rest : List Oper} {o : Oper} {a : Act} {Q : Exit → Act → World → Prop}
theorem wpList_append {t e : TypeId} {z : Value} {size bytes : Nat} (hgd : o.guard = none) (E : Elem P t e z size bytes) (s x : Operand)
    (ho : o.op = .call { callee := .builtin .append, args := #[s, x], argTypes := #[t, t] })
    (base : Nat) (v : Value) (n : Nat) (xs : List Value) (hs : a.eval s = v) (hown : w.ownsRow base e size v n xs)
    (A : Option Addr) (m c : Nat) (news : List Value) (hx : a.eval x = .slice A m c) (hr : Rd w A m size news) (h1 : ∀ u ∈ news, u.oneCell' = true)
    (hbd : n + m ≤ 1000000) (hby : bytes ≤ 1000) (hbase : base ≤ w.heap.size)
    (h : ∀ A' c' w', w'.ownsRow base e size (.slice A' (n + m) c') (n + m) (xs ++ news) → w.grownBy w' v.ownBlock → ((Value.slice A' (n + m) c').ownBlock = v.ownBlock ∨ (Value.slice A' (n + m) c').ownBlock = some w.heap.size) → wpList P ops Q rest (a.put o.dst (.slice A' (n + m) c')) w') :
    wpList P ops Q (o :: rest) a w :=
  wpList_plain hgd fun _ hK => wp_append E s x ho base v n xs hs hown A m c news hx hr h1 hbd hby hbase fun A' c' w' h2 h3 h4 => hK _ _ (h A' c' w' h2 h3 h4)

theorem wpList_clone {t e : TypeId} {z : Value} {size bytes : Nat} (hgd : o.guard = none) (E : Elem P t e z size bytes) (s x : Operand)
    (ho : o.op = .call { callee := .builtin .append, args := #[s, x], argTypes := #[t, t] }) (hs : a.eval s = .slice none 0 0)
    (base : Nat) (A : Option Addr) (m c : Nat) (news : List Value) (hx : a.eval x = .slice A m c) (hr : Rd w A m size news) (h1 : ∀ u ∈ news, u.oneCell' = true)
    (hbd : m ≤ 1000000) (hby : bytes ≤ 1000) (hbase : base ≤ w.heap.size)
    (h : ∀ A' c' w', w'.ownsRow base e size (.slice A' m c') m news → Ext w w' → wpList P ops Q rest (a.put o.dst (.slice A' m c')) w') : wpList P ops Q (o :: rest) a w :=
  wpList_plain hgd fun _ hK => wp_clone E s x ho hs base A m c news hx hr h1 hbd hby hbase fun A' c' w' h2 h3 => hK _ _ (h A' c' w' h2 h3)
end
end

theorem tmod_lt {v n : Int} (h1 : 1 ≤ n) (h2 : n ≤ 9223372036854775807) (h : v.tmod n < 0) : wrap64 (v.tmod n + n) = v % n := by
  have hb : 0 ≤ v % n := Int.emod_nonneg _ (by omega)
  have hl : v % n < n := Int.emod_lt_of_pos _ (by omega)
  have he : v % n = v.tmod n + n := by
    have h4 := Int.tmod_eq_emod (a := v) (b := n)
    rw [h4] at h
    split at h
    · omega
    · rename_i hc; rw [h4, if_neg hc]; have : (n.natAbs : Int) = n := by omega
      omega
  rw [← he]
  unfold wrap64
  omega
theorem tmod_ge {v n : Int} (h1 : 1 ≤ n) (h : 0 ≤ v.tmod n) : v.tmod n = v % n := by
  have hl : v % n < n := Int.emod_lt_of_pos _ (by omega)
  have h4 := Int.tmod_eq_emod (a := v) (b := n)
  rw [h4] at h ⊢
  split at h
  · rename_i hc; rw [if_pos hc]; omega
  · have : (n.natAbs : Int) = n := by omega
    omega

/-- make([]T, n), elements of one cell -/
theorem run_mk {P : Program} {t e : TypeId} {z : Value} {bytes : Nat} (E : Elem P t e z 1 bytes) (hz1 : z.cells = #[z]) (n : Nat) (hn : n ≤ 1000000) (hby : bytes ≤ 1000) (w : World) :
    (Instr.makeSlice t (.int .i64 (n : Int)) (.int .i64 (n : Int))).run P w = .ok (.slice (some ⟨w.heap.size, 0, none⟩) n n) (w.alloc (.cells (List.replicate n z).toArray e)) := by
  obtain ⟨i, hi, hz, hsize, hbytes⟩ := info_parts E.ex
  have hmb : i.bytes * n ≤ 1000 * 1000000 := Nat.mul_le_mul (by omega) hn
  have hb' : (i.bytes : Int) * (n : Int) ≤ 281474976710656 := by
    have h : ((i.bytes * n : Nat) : Int) ≤ 281474976710656 := by omega
    rwa [Int.natCast_mul] at h
  have hr := run_make (P := P) w t e i z E.ht hi hz .i64 .i64 n n (by omega) (Int.le_refl _) hb' (by omega)
  simp only [Int.toNat_natCast, hsize, Nat.mul_one, hz1] at hr
  rw [hr]
  congr 4
  apply Array.ext'
  rw [toList_madeCells_one]

theorem own_new {base b : Nat} {w : World} {cs : List Value} {e : TypeId} {size n : Nat} (hbe : b = w.heap.size) (hb : base ≤ w.heap.size) (hm : n ≤ 1000000) (hs : cs.length = n * size) :
    (w.alloc (.cells cs.toArray e)).ownsRow base e size (.slice (some ⟨b, 0, none⟩) n n) n cs := by
  subst hbe
  have := World.ownsRow_lit (base := base) (e := e) (size := size) w cs.toArray n hb (by simp only [maxLen]; omega) (by simpa using hs)
  simpa using this

/-- the cell of one element that append(s, x) lays first -/
theorem rd_one (w : World) (x : Value) (t : TypeId) : Rd (w.alloc (.cells #[x] t)) (some ⟨w.heap.size, 0, none⟩) 1 1 [x] := by
  refine ⟨rfl, fun _ => ⟨w.heap.size, 0, rfl, fun j u hu => ?_⟩⟩
  have := cell_one_new w x t j u hu
  rw [addr_add] at this
  exact this

/-- a new row reads -/
theorem rd_new (w : World) (cs : List Value) (t : TypeId) (n size : Nat) (h : cs.length = n * size) : Rd (w.alloc (.cells cs.toArray t)) (some ⟨w.heap.size, 0, none⟩) n size cs :=
  ⟨h, fun _ => ⟨w.heap.size, 0, rfl, fun j u hu => by
    rw [cell_of_row _ w.heap.size (0 + j) cs.toArray t (0, 0) (heap_alloc_new w _)]
    simpa using hu⟩⟩
end Go.Draw
