/- A graph of the call's own in which one node is replaced: it can still be read. Plain facts, no walk. -/
import Derived.Test.YtamghjilcfeheaaAB
import Derived.Test.YtamghjilcfeheaaEA
import Derived.Test.YtamghjilcfeheaaCL
namespace Go.Proofs.Ytamghjilcfeheaa
open Go.RowKit Go.Draw

theorem xr (w : World) : Ext w w := Ext.refl w
theorem xa {a w : World} (h : Ext a w) (o : Obj) : Ext a (w.alloc o) := h.alloc o
theorem xd {a w : World} (h : Ext a w) : Ext a w.drew := h.drew
theorem xl {a w : World} (h : Ext a w) : Ext a.drew w := h.drewL
theorem xt {a b c : World} (h : Ext a b) (k : Ext b c) : Ext a c := h.trans k
theorem za {α : Type _} {l : List α} {i : Nat} {x : α} : l.toArray.setIfInBounds i x = (l.set i x).toArray := by simp
theorem zb {α : Type _} {l : List α} {x y : α} : (x :: l).set 0 y = y :: l := rfl
theorem zc {α : Type _} {l : List α} {i : Nat} {x y : α} : (x :: l).set (i + 1) y = x :: l.set i y := rfl
theorem ga {α : Type _} {l : List α} {i : Nat} {o : Option α} (h : l[i]? = o) : l.toArray[i]? = o := List.getElem?_toArray.trans h
theorem valid_of {gg : Gr} {b : Bool} (hb : vldB gg = b) (v : Value) (w : World) (hg : GRd w v gg) (hbb : gg.ns.length ≤ 1000 ∧ gg.us.length ≤ 1000 ∧ gg.rs.length ≤ 1000) : Calls Try.prog 14 #[v] w fun r w' => r = .returned (.bool b) ∧ Ext w w' := by
  subst hb
  exact valid14_raw v gg w hg hbb

theorem vals_set1 : ∀ (l : List (Value × Value)) (m : Nat) (p : Value × Value) (q : Value), l[m]? = some p → vals (l.set m (q, p.2)) = (vals l).set (m * 2) q
  | [], _, _, _, h => by simp at h
  | (a, b) :: l, 0, p, q, h => by
    simp at h
    subst h
    simp [vals]
  | (a, b) :: l, m + 1, p, q, h => by
    simp at h
    have := vals_set1 l m p q h
    have e : (m + 1) * 2 = m * 2 + 1 + 1 := by omega
    rw [e]
    simp [vals, this]
theorem vals_set2 : ∀ (l : List (Value × Value)) (m : Nat) (p : Value × Value) (q : Value), l[m]? = some p → vals (l.set m (p.1, q)) = (vals l).set (m * 2 + 1) q
  | [], _, _, _, h => by simp at h
  | (a, b) :: l, 0, p, q, h => by
    simp at h
    subst h
    simp [vals]
  | (a, b) :: l, m + 1, p, q, h => by
    simp at h
    have := vals_set2 l m p q h
    have e : (m + 1) * 2 + 1 = m * 2 + 1 + 1 + 1 := by omega
    rw [e]
    simp [vals, this]
section
variable {w w' : World} {base o : Nat} {vA vB vC : Value} {ps : List (Value × Value)} {g : Gr}
theorem GOwn.renode {S T : List Nat} {m : Nat} {p p' : Value × Value} {x' : List Int × List Int} (h : GOwn w base o vA vB vC ps g) (hp : ps[m]? = some p) (he : But S w w') (hS : ∀ k b, kv vA vB vC ps k = some b → b ∈ S → k = .A ∨ k = .R m ∨ k = .D m)
    (hA : w'.ownsRow base 49 2 vA g.ns.length (vals (ps.set m p'))) (hn : NdRx T w' p' x') (hT : ∀ x ∈ T, x < base) : GRx T w' (.agg #[vA, vB, vC]) { g with ns := g.ns.set m x' } := by
  have hU := own_but h.used he (fun b hb hm => by rcases hS .B b hb hm with e | e | e <;> cases e)
  have hC := own_but h.roots he (fun b hb hm => by rcases hS .C b hb hm with e | e | e <;> cases e)
  have hE := h.each
  have hap := h.len
  obtain ⟨A, a, rfl⟩ := own_slice hA
  obtain ⟨B, b, rfl⟩ := own_slice hU
  obtain ⟨C, c, rfl⟩ := own_slice hC
  refine ⟨A, a, B, b, C, c, ps.set m p', by simp, by simpa using Rd.of_own hA, Rd.of_own hU, Rd.of_own hC, fun j q y hq hy => ?_, by simpa using Off.own hA hT, Off.own hU hT, Off.own hC hT⟩
  have hm := (List.getElem?_eq_some_iff.1 hp).1
  by_cases hj : j = m
  · subst hj
    rw [List.getElem?_set_self hm] at hq
    injection hq with hq
    subst hq
    simp only [List.getElem?_set_self (show j < g.ns.length by omega), Option.some.injEq] at hy
    subst hy
    exact hn
  · rw [List.getElem?_set_ne (Ne.symm hj)] at hq
    simp only [List.getElem?_set_ne (Ne.symm hj)] at hy
    obtain ⟨h1, h2⟩ := hE j q y hq hy
    replace h1 := own_but h1 he (fun b hb hm => by rcases hS (.R j) b (by simp only [kv, hq, Option.bind_some, hb]) hm with e | e | e <;> simp at e; exact hj e)
    replace h2 := own_but h2 he (fun b hb hm => by rcases hS (.D j) b (by simp only [kv, hq, Option.bind_some, hb]) hm with e | e | e <;> simp at e; exact hj e)
    obtain ⟨q1, q2⟩ := q
    obtain ⟨A', a', rfl⟩ := own_slice h1
    obtain ⟨B', b', rfl⟩ := own_slice h2
    exact ⟨A', a', B', b', rfl, Rd.of_own h1, Rd.of_own h2, Off.own h1 hT, Off.own h2 hT⟩
end
theorem own_ndrd {T : List Nat} {w : World} {b1 b2 : Nat} {p : Value × Value} {x : List Int × List Int} (h1 : w.ownsRow b1 3 1 p.1 x.1.length (ints x.1)) (h2 : w.ownsRow b2 31 1 p.2 x.2.length (words x.2)) (hT1 : ∀ x ∈ T, x < b1) (hT2 : ∀ x ∈ T, x < b2) : NdRx T w p x := by
  obtain ⟨p1, p2⟩ := p
  obtain ⟨A', a', rfl⟩ := own_slice h1
  obtain ⟨B', b', rfl⟩ := own_slice h2
  exact ⟨A', a', B', b', rfl, Rd.of_own h1, Rd.of_own h2, Off.own h1 hT1, Off.own h2 hT2⟩
theorem fin_refs {T : List Nat} {W w2 w3 w4 : World} {base o b8 bA m n a1 : Nat} {vB vC q : Value} {ps : List (Value × Value)} {p : Value × Value} {g : Gr} {x : List Int × List Int} {u : Int}
    (hG : GOwn W base o (.slice (some ⟨bA, 0, none⟩) n a1) vB vC ps g) (hp : ps[m]? = some p) (hx : g.ns[m]? = some x) (e2 : Ext W w2) (hg : w2.grownBy w3 p.1.ownBlock)
    (hN : w3.ownsRow base 3 1 q (x.1.length + 1) (ints x.1 ++ [.int .i64 u])) (hat : q.ownBlock = p.1.ownBlock ∨ q.ownBlock = some w2.heap.size) (h4 : But [b8] (w3.setCell ⟨bA, m * 2, none⟩ q) w4) (hb8 : b8 < base) (hbW : base ≤ W.heap.size) (hT : ∀ x ∈ T, x < base) :
    GRx T w4 (.agg #[.slice (some ⟨bA, 0, none⟩) n a1, vB, vC]) { g with ns := g.ns.set m (x.1 ++ [u], x.2) } := by
  have hz2 := e2.size_le
  have kA : kv (.slice (some ⟨bA, 0, none⟩) n a1) vB vC ps .A = some bA := rfl
  have kR : kv (.slice (some ⟨bA, 0, none⟩) n a1) vB vC ps (.R m) = p.1.ownBlock := by simp only [kv, hp, Option.bind_some]
  have hbA := hG.lt .A bA rfl
  have nR : p.1.ownBlock ≠ some bA := fun e => by have := hG.apart (.R m) .A bA (kR.trans e) kA; cases this
  have nq : ∀ b, q.ownBlock = some b → b ≠ bA ∧ b ≠ b8 := fun b hb => by
    have hlt := World.ownsRow.lt hN b hb
    refine ⟨fun e => ?_, by omega⟩
    subst e
    rcases hat with h | h
    · exact nR (h.symm.trans hb)
    · rw [hb] at h; injection h with h; omega
  have hB3 : But p.1.ownBlock.toList W w3 := (e2.but _).trans (but_grown hg)
  have hB4 : But (b8 :: bA :: p.1.ownBlock.toList) W w4 := ((But.more hB3 (fun q hq => by simp [hq])).trans (But.setCell (p := ⟨bA, m * 2, none⟩) (But.refl _ _) (by simp) q)).trans (But.more h4 (fun z hz => by have := List.mem_singleton.1 hz; subst this; simp))
  refine hG.renode (p' := (q, p.2)) (x' := (x.1 ++ [u], x.2)) hp hB4 (fun k b hk hm => ?_) ?_ ?_ hT
  · rcases List.mem_cons.1 hm with h | h
    · have := (hG.lt k b hk).1; omega
    · rcases List.mem_cons.1 h with h | h
      · subst h; exact .inl (hG.apart _ _ _ hk kA)
      · exact .inr (.inl (hG.apart _ _ _ hk (kR.trans (by simpa using h))))
  · have hn := hG.nodes
    have hA3 := own_but hn hB3 (fun b hb hm => by
      injection hb with hb
      subst hb
      exact nR (by simpa using hm))
    obtain ⟨A, a, hs⟩ := own_slice hA3
    injection hs with s1 s2 s3
    subst s2
    rw [vals_set1 _ _ _ _ hp]
    exact own_but (own_set hA3 (m * 2) q) h4 (fun b hb hm => by
      injection hb with hb
      have := List.mem_singleton.1 hm
      simp only at hb
      omega)
  · obtain ⟨h1, h2⟩ := hG.each m p x hp hx
    have kD : ∀ b, p.2.ownBlock = some b → kv (.slice (some ⟨bA, 0, none⟩) n a1) vB vC ps (.D m) = some b := fun b hb => by simp only [kv, hp, Option.bind_some, hb]
    refine own_ndrd (b1 := base) (b2 := base) ?_ (own_but h2 hB4 (fun b hb hm => ?_)) hT hT
    · have := own_but (own_but hN (But.setCell (S := [bA]) (p := ⟨bA, m * 2, none⟩) (But.refl _ _) (by simp) q) (fun b hb hm => (nq b hb).1 (List.mem_singleton.1 hm))) h4 (fun b hb hm => (nq b hb).2 (List.mem_singleton.1 hm))
      simpa [ints] using this
    · rcases List.mem_cons.1 hm with h | h
      · have := (hG.lt _ b (kD b hb)).1; omega
      · rcases List.mem_cons.1 h with h | h
        · subst h; have := hG.apart _ _ _ (kD _ hb) kA; cases this
        · have := hG.apart _ _ _ (kD b hb) (kR.trans (by simpa using h)); cases this
theorem fin_data {T : List Nat} {W w3 w4 : World} {base o b8 bA m n a1 : Nat} {vB vC q : Value} {ps : List (Value × Value)} {p : Value × Value} {g : Gr} {x : List Int × List Int} {d : List Int}
    (hG : GOwn W base o (.slice (some ⟨bA, 0, none⟩) n a1) vB vC ps g) (hp : ps[m]? = some p) (hx : g.ns[m]? = some x) (e3 : Ext W w3)
    (hN : w3.ownsRow W.heap.size 31 1 q d.length (words d)) (h4 : But [b8] (w3.setCell ⟨bA, m * 2 + 1, none⟩ q) w4) (hb8 : b8 < base) (hbW : base ≤ W.heap.size) (hT : ∀ x ∈ T, x < base) :
    GRx T w4 (.agg #[.slice (some ⟨bA, 0, none⟩) n a1, vB, vC]) { g with ns := g.ns.set m (x.1, d) } := by
  have kA : kv (.slice (some ⟨bA, 0, none⟩) n a1) vB vC ps .A = some bA := rfl
  have hbA := hG.lt .A bA rfl
  have nq : ∀ b, q.ownBlock = some b → b ≠ bA ∧ b ≠ b8 := fun b hb => by
    have hlt := World.ownsRow.lt hN b hb
    exact ⟨by omega, by omega⟩
  have hB4 : But [b8, bA] W w4 := ((e3.but _).trans (But.setCell (p := ⟨bA, m * 2 + 1, none⟩) (But.refl _ _) (by simp) q)).trans (But.more h4 (fun z hz => by have := List.mem_singleton.1 hz; subst this; simp))
  refine hG.renode (p' := (p.1, q)) (x' := (x.1, d)) hp hB4 (fun k b hk hm => ?_) ?_ ?_ hT
  · rcases List.mem_cons.1 hm with h | h
    · have := (hG.lt k b hk).1; omega
    · have := List.mem_singleton.1 h
      subst this
      exact .inl (hG.apart _ _ _ hk kA)
  · have hn := hG.nodes
    have hA3 := own_ext hn e3
    obtain ⟨A, a, hs⟩ := own_slice hA3
    injection hs with s1 s2 s3
    subst s2
    rw [vals_set2 _ _ _ _ hp]
    exact own_but (own_set hA3 (m * 2 + 1) q) h4 (fun b hb hm => by
      injection hb with hb
      have := List.mem_singleton.1 hm
      simp only at hb
      omega)
  · obtain ⟨h1, h2⟩ := hG.each m p x hp hx
    have kR : ∀ b, p.1.ownBlock = some b → kv (.slice (some ⟨bA, 0, none⟩) n a1) vB vC ps (.R m) = some b := fun b hb => by simp only [kv, hp, Option.bind_some, hb]
    refine own_ndrd (b1 := base) (b2 := W.heap.size) (own_but h1 hB4 (fun b hb hm => ?_)) ?_ hT (fun x hx => by have := hT x hx; omega)
    · rcases List.mem_cons.1 hm with h | h
      · have := (hG.lt _ b (kR b hb)).1; omega
      · have := List.mem_singleton.1 h
        subst this
        have := hG.apart _ _ _ (kR _ hb) kA; cases this
    · exact own_but (own_but hN (But.setCell (S := [bA]) (p := ⟨bA, m * 2 + 1, none⟩) (But.refl _ _) (by simp) q) (fun b hb hm => (nq b hb).1 (List.mem_singleton.1 hm))) h4 (fun b hb hm => (nq b hb).2 (List.mem_singleton.1 hm))
theorem mod_is (v n y : Int) (w : World) (h1 : 1 ≤ n) (h2 : n ≤ 9223372036854775807) (h : v % n = y) :
    Calls Try.prog 11 #[.int .i64 v, .int .i64 n] w fun e w' => e = .returned (.int .i64 y) ∧ w = w' := by
  subst h
  exact mod_any v n w h1 h2
theorem mod_nat (v : Int) (n : Nat) (h : 0 < n) : ∃ j : Nat, v % (n : Int) = j ∧ j < n := by
  have h1 := Int.emod_nonneg v (show (n : Int) ≠ 0 by omega)
  have h2 := Int.emod_lt_of_pos v (show (0 : Int) < n by omega)
  exact ⟨(v % (n : Int)).toNat, by omega, by omega⟩
end Go.Proofs.Ytamghjilcfeheaa
