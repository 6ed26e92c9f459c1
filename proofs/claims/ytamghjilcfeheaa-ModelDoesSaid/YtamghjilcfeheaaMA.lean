/- The walks of the decks of numbers. Conditions: the ranges that each theorem states. Graphs as lists, and how they lie in memory. Plain facts, no walk. A node is added to a graph of the call's own; the clones. Conditions: the ranges that each theorem states. -/
import Derived.Test.YtamghjilcfeheaaRows
import Derived.WalkKit
import Derived.WalkSpells
import Derived.WalkLawsBesides
import Derived.Lib.Hide
import Derived.RegionTactic
import Derived.Deep.DeepCutAuto
import Derived.Test.YtamghjilcfeheaaMem
import Derived.Test.YtamghjilcfeheaaTree
namespace Go.Proofs.Ytamghjilcfeheaa
open Go.RowKit Go.Draw

theorem Try.mixed : Try.prog.follows .mixedOrders = true := by kernel_rfl
theorem ret_bool {a b : Bool} (h : a = b) : Ending.returned (.bool a) = .returned (.bool b) := by rw [h]
theorem ret_int {k : IntKind} {a b : Int} (h : a = b) : Ending.returned (.int k a) = .returned (.int k b) := by rw [h]
def ints (zs : List Int) : List Value := zs.map (.int .i64)
theorem blk_of_ext {w w' : World} {cs : Array Value} {t : TypeId} (h : Ext (w.alloc (.cells cs t)) w') : Blk w' w.heap.size t cs := (Blk.new rfl).ext h
theorem But.fresh {S : List Nat} {a w : World} (h : But S a w) {p : Addr} (hp : a.heap.size ≤ p.block) (u : Value) : But S a (w.setCell p u) :=
  ⟨h.os, h.tape, h.output, by simpa [World.setCell] using h.size, fun k hk hn => by
    rw [RowKit.Below.heap_setCell _ _ _ _ (fun e => by omega)]
    exact h.block k hk hn⟩
/-- block d is a deck -/
def Dk (w : World) (d : Nat) : Prop := ∃ (A : Option Addr) (n c k : Nat) (zs : List Int), Blk w d 59 #[.slice A n c, .int .i64 k] ∧ Rd w A n 1 (ints zs) ∧ k ≤ n ∧ n ≤ 9223372036854775807 ∧ (0 < n → ∀ ad, A = some ad → ad.block < d)
theorem Dk.ext {w w' : World} {d : Nat} (h : Dk w d) (he : Ext w w') : Dk w' d := by
  obtain ⟨A, n, c, k, zs, h1, h2, h3⟩ := h
  exact ⟨A, n, c, k, zs, h1.ext he, h2.ext he, h3⟩
theorem rd_but {w w' : World} {A : Option Addr} {n size : Nat} {xs : List Value} {S : List Nat} (h : Rd w A n size xs) (he : But S w w') (hS : 0 < n → ∀ ad, A = some ad → ad.block ∉ S) : Rd w' A n size xs :=
  ⟨h.1, fun hn => by
    obtain ⟨b, o, hA, hc⟩ := h.2 hn
    exact ⟨b, o, hA, fun j u hu => cell_but he (hS hn _ hA) (hc j u hu)⟩⟩
theorem Dk.but {w w' : World} {d : Nat} {S : List Nat} (h : Dk w d) (he : But S w w') (hS : ∀ x ∈ S, d < x) : Dk w' d := by
  obtain ⟨A, n, c, k, zs, h1, h2, h3, h4, h5⟩ := h
  exact ⟨A, n, c, k, zs, h1.but he (fun hm => by have := hS _ hm; omega), rd_but h2 he (fun hn ad hA hm => by have := hS _ hm; have := h5 hn ad hA; omega), h3, h4, h5⟩
theorem Dk.lt {w : World} {d : Nat} (h : Dk w d) : d < w.heap.size := by
  obtain ⟨A, n, c, k, zs, h1, _⟩ := h
  exact h1.lt

set_option maxHeartbeats 400000 in
theorem deck_any (A : Option Addr) (n c : Nat) (zs : List Int) (w : World) (hz : Rd w A n 1 (ints zs)) (hn : n ≤ 9223372036854775807) :
    Calls Try.prog 9 #[.slice A n c] w fun r w' => r = .returned (.pointer (some ⟨w.heap.size, 0, none⟩)) ∧ Dk w' w.heap.size ∧ Ext w w' := by
  go_enter Try.func9, Try.ntmps9
  go_wp2
  go_ret
  have hE : Ext w (w.alloc (.cells #[.slice A n c, .int .i64 0] 59)) := by (repeat (first | (with_reducible exact Ext.refl _) | assumption | (with_reducible refine Ext.alloc ?_ _) | (with_reducible refine Ext.drew ?_) | (with_reducible refine Ext.drewL ?_) | refine Ext.trans ?_ (by assumption)))
  exact ⟨rfl, ⟨A, n, c, 0, zs, Blk.new rfl, hz.ext hE, by omega, hn, fun h0 ad h => by obtain ⟨b, o, hA, hb⟩ := hz.lt (by omega) h0; rw [hA] at h; injection h with h; subst h; exact hb⟩, hE⟩

set_option maxHeartbeats 400000 in
theorem mod_any (v n : Int) (w : World) (h1 : 1 ≤ n) (h2 : n ≤ 9223372036854775807) :
    Calls Try.prog 11 #[.int .i64 v, .int .i64 n] w fun e w' => e = .returned (.int .i64 (v % n)) ∧ w = w' := by
  go_enter Try.func11, Try.ntmps11
  go_wp2
  · go_ret
    exact ⟨ret_int (tmod_lt h1 h2 (by assumption)), rfl⟩
  · go_ret
    exact ⟨ret_int (tmod_ge h1 (by assumption)), rfl⟩

set_option maxHeartbeats 400000 in
theorem next_any (d : Nat) (m : Int) (w : World) (hd : Dk w d) (hm : 1 ≤ m) (hm2 : m ≤ 9223372036854775807) :
    Calls Try.prog 26 #[.pointer (some ⟨d, 0, none⟩), .int .i64 m] w fun r w' => ∃ x, r = .returned (.int .i64 x) ∧ 0 ≤ x ∧ x < m ∧ Dk w' d ∧ But [d] w w' := by
  obtain ⟨A, n, c, k, zs, h1, h2, h3, h4, hAd⟩ := hd
  have hc := h1.cell
  have hf := h1.froz
  have hkb : (k : Int) ≤ 9223372036854775807 := by omega
  by_cases hlt : k < n
  · obtain ⟨b, o, u, rfl, hku, hcell⟩ := h2.at_ hlt
    obtain ⟨z, rfl⟩ : ∃ z, u = .int .i64 z := by
      simp only [ints, List.getElem?_map, Option.map_eq_some_iff] at hku
      obtain ⟨z, _, h⟩ := hku
      exact ⟨z, h.symm⟩
    have hbl : b < d := hAd (by omega) _ rfl
    have hbd : b ≠ d := by omega
    have hdb : d ≠ b := fun e => hbd e.symm
    have hdec : decide ((n : Int) ≤ k) = false := by simp; omega
    have hdec' : decide (n ≤ k) = false := by simp; omega
    have b1 : (k : Int) + 1 - 1 = k := by omega
    have b2 : (k : Int) < n := by omega
    have hr0 := Int.emod_nonneg z (b := m) (by omega)
    have hr1 := Int.emod_lt_of_pos z (b := m) (by omega)
    have Hku := Lib.hid hku
    clear hku
    go_enter Try.func26, Try.ntmps26
    go_wp2
    refine wp_region_ext [(true, 0), (true, 1), (true, 2), (true, 3), (true, 4), (true, 5), (true, 6), (true, 7), (true, 8), (true, 9)] Try.mixed (by kernel_rfl) (by simp only [pick, List.filterMap_cons, List.filterMap_nil, List.getElem?_toArray, List.getElem?_cons_succ, List.getElem?_cons_zero, Option.map_some]; rfl) ?_
    intro hx
    repeat (first
      | (refine wpL_take hx (v := ?_) (by rfl) (fun _ hc => ?_) ?_
         rotate_left
         focus (go_simp; (try go_ints); exact rfl)
         simp only [Act.put, List.setIfInBounds_toArray, List.set_cons_zero, List.set_cons_succ])
      | (refine wpL_skip (by rfl) ?_; simp only [Act.put, List.setIfInBounds_toArray, List.set_cons_zero, List.set_cons_succ])
      | (refine wpL_call (by rfl) (fun K hK => ?_); go_simp; (first | (refine hK _ _ ?_ ?_; (focus ((repeat (first | (with_reducible exact Ext.refl _) | assumption | (with_reducible refine Ext.alloc ?_ _) | (with_reducible refine Ext.drew ?_) | (with_reducible refine Ext.drewL ?_) | refine Ext.trans ?_ (by assumption))); done))) | (refine hK undef _ ?_ ?_; (focus ((repeat (first | (with_reducible exact Ext.refl _) | assumption | (with_reducible refine Ext.alloc ?_ _) | (with_reducible refine Ext.drew ?_) | (with_reducible refine Ext.drewL ?_) | refine Ext.trans ?_ (by assumption))); done)))); clear hK; intro hr; replace hx := hx.trans hr; clear hr; try simp only [Act.put, List.setIfInBounds_toArray, List.set_cons_zero, List.set_cons_succ]))
    refine wpL_end ?_
    go_wp2
    refine wp_region_ext [(true, 0), (true, 1), (true, 2), (true, 3), (true, 4), (true, 5), (true, 6), (true, 7), (true, 8), (true, 9), (true, 10), (true, 11), (false, 12), (true, 13)] Try.mixed (by kernel_rfl) (by simp only [pick, List.filterMap_cons, List.filterMap_nil, List.getElem?_toArray, List.getElem?_cons_succ, List.getElem?_cons_zero, Option.map_some]; rfl) ?_
    intro hx
    repeat (first
      | (refine wpL_take hx (v := ?_) (by rfl) (fun _ hc => ?_) ?_
         rotate_left
         focus (go_simp; (try go_ints); exact rfl)
         simp only [Act.put, List.setIfInBounds_toArray, List.set_cons_zero, List.set_cons_succ])
      | (refine wpL_skip (by rfl) ?_; simp only [Act.put, List.setIfInBounds_toArray, List.set_cons_zero, List.set_cons_succ])
      | (refine wpL_call (by rfl) (fun K hK => ?_); go_simp; go_at_call 11; refine (mod_any _ _ _ (by omega) (by omega)).mono ?_; rintro e w1 ⟨rfl, rfl⟩; refine hK _ _ (Ext.refl _) ?_; clear hK; intro hr; replace hx := hx.trans hr; clear hr; simp only [Act.put, List.setIfInBounds_toArray, List.set_cons_zero, List.set_cons_succ])
      | (refine wpL_call (by rfl) (fun K hK => ?_); go_simp; (first | (refine hK _ _ ?_ ?_; (focus ((repeat (first | (with_reducible exact Ext.refl _) | assumption | (with_reducible refine Ext.alloc ?_ _) | (with_reducible refine Ext.drew ?_) | (with_reducible refine Ext.drewL ?_) | refine Ext.trans ?_ (by assumption))); done))) | (refine hK undef _ ?_ ?_; (focus ((repeat (first | (with_reducible exact Ext.refl _) | assumption | (with_reducible refine Ext.alloc ?_ _) | (with_reducible refine Ext.drew ?_) | (with_reducible refine Ext.drewL ?_) | refine Ext.trans ?_ (by assumption))); done)))); clear hK; intro hr; replace hx := hx.trans hr; clear hr; try simp only [Act.put, List.setIfInBounds_toArray, List.set_cons_zero, List.set_cons_succ]))
    refine wpL_end ?_
    go_wp2
    go_ret
    have hB : But [d] w (w.setCell ⟨d, 1, none⟩ (.int .i64 ((k : Int) + 1))).drew.drew := But.drew (But.drew (But.setCell (But.refl _ _) (by simp) _))
    refine ⟨_, rfl, hr0, hr1, ⟨some ⟨b, o, none⟩, n, c, k + 1, zs, ?_, rd_but h2 hB (fun h0 ad h => by simp only [List.mem_singleton]; have := hAd h0 ad h; omega), by omega, h4, hAd⟩, hB⟩
    have := (h1.set_ 1 (.int .i64 ((k : Int) + 1))).drew.drew
    exact this
  · have hdec : decide ((n : Int) ≤ k) = true := by simp; omega
    go_enter Try.func26, Try.ntmps26
    go_wp2
    refine wp_region_ext [(true, 0), (true, 1), (true, 2), (true, 3), (true, 4), (true, 5), (true, 6), (true, 7), (true, 8), (true, 9)] Try.mixed (by kernel_rfl) (by simp only [pick, List.filterMap_cons, List.filterMap_nil, List.getElem?_toArray, List.getElem?_cons_succ, List.getElem?_cons_zero, Option.map_some]; rfl) ?_
    intro hx
    repeat (first
      | (refine wpL_take hx (v := ?_) (by rfl) (fun _ hc => ?_) ?_
         rotate_left
         focus (go_simp; (try go_ints); exact rfl)
         simp only [Act.put, List.setIfInBounds_toArray, List.set_cons_zero, List.set_cons_succ])
      | (refine wpL_skip (by rfl) ?_; simp only [Act.put, List.setIfInBounds_toArray, List.set_cons_zero, List.set_cons_succ])
      | (refine wpL_call (by rfl) (fun K hK => ?_); go_simp; (first | (refine hK _ _ ?_ ?_; (focus ((repeat (first | (with_reducible exact Ext.refl _) | assumption | (with_reducible refine Ext.alloc ?_ _) | (with_reducible refine Ext.drew ?_) | (with_reducible refine Ext.drewL ?_) | refine Ext.trans ?_ (by assumption))); done))) | (refine hK undef _ ?_ ?_; (focus ((repeat (first | (with_reducible exact Ext.refl _) | assumption | (with_reducible refine Ext.alloc ?_ _) | (with_reducible refine Ext.drew ?_) | (with_reducible refine Ext.drewL ?_) | refine Ext.trans ?_ (by assumption))); done)))); clear hK; intro hr; replace hx := hx.trans hr; clear hr; try simp only [Act.put, List.setIfInBounds_toArray, List.set_cons_zero, List.set_cons_succ]))
    refine wpL_end ?_
    go_wp2
    go_ret
    have hE : Ext w w.drew := by (repeat (first | (with_reducible exact Ext.refl _) | assumption | (with_reducible refine Ext.alloc ?_ _) | (with_reducible refine Ext.drew ?_) | (with_reducible refine Ext.drewL ?_) | refine Ext.trans ?_ (by assumption)))
    exact ⟨0, rfl, by omega, by omega, Dk.ext ⟨A, n, c, k, zs, h1, h2, h3, h4, hAd⟩ hE, hE.but _⟩

theorem mod_to (v n : Int) (i : Nat) (w : World) (h1 : 1 ≤ n) (h2 : n ≤ 9223372036854775807) (h : v % n = (i : Int)) :
    Calls Try.prog 11 #[.int .i64 v, .int .i64 n] w fun e w' => e = .returned (.int .i64 (i : Int)) ∧ w = w' := by
  rw [← h]; exact mod_any v n w h1 h2
theorem mod_ex (v : Int) (L : Nat) (h : L ≠ 0) : ∃ i : Nat, v % (L : Int) = (i : Int) ∧ i < L := by
  have h1 := Int.emod_nonneg v (show (L : Int) ≠ 0 by omega)
  have h2 := Int.emod_lt_of_pos v (show (0 : Int) < L by omega)
  exact ⟨(v % (L : Int)).toNat, by omega, by omega⟩
end Go.Proofs.Ytamghjilcfeheaa

namespace Go.Proofs.Ytamghjilcfeheaa
open Go.RowKit Go.Draw

structure Gr where
  ns : List (List Int × List Int)
  us : List Bool
  rs : List Int

def vb (l : List Bool) : List Value := l.map .bool
def words (zs : List Int) : List Value := zs.map (.int .u64)
def vals : List (Value × Value) → List Value
  | [] => []
  | p :: l => p.1 :: p.2 :: vals l
theorem vals_len : ∀ l, (vals l).length = l.length * 2
  | [] => rfl
  | p :: l => by simp only [vals, List.length_cons, vals_len l]; omega
theorem vals_at : ∀ (l : List (Value × Value)) (i : Nat) (p : Value × Value), l[i]? = some p → (vals l)[i * 2]? = some p.1 ∧ (vals l)[i * 2 + 1]? = some p.2
  | [], i, p, h => by simp at h
  | q :: l, 0, p, h => by
    simp only [List.getElem?_cons_zero, Option.some.injEq] at h
    subst h
    exact ⟨rfl, rfl⟩
  | q :: l, i + 1, p, h => by
    simp only [List.getElem?_cons_succ] at h
    have := vals_at l i p h
    rw [show (i + 1) * 2 = i * 2 + 1 + 1 by omega]
    exact this
theorem vals_append : ∀ (l : List (Value × Value)) (p : Value × Value), vals (l ++ [p]) = vals l ++ [p.1, p.2]
  | [], p => rfl
  | q :: l, p => by simp only [List.cons_append, vals, vals_append l p]

theorem ints_len (l : List Int) : (ints l).length = l.length := by simp [ints]
theorem words_len (l : List Int) : (words l).length = l.length := by simp [words]
theorem vb_len (l : List Bool) : (vb l).length = l.length := by simp [vb]
theorem ints_at {l : List Int} {i : Nat} {z : Int} (h : l[i]? = some z) : (ints l)[i]? = some (.int .i64 z) := by simp [ints, h]
theorem words_at {l : List Int} {i : Nat} {z : Int} (h : l[i]? = some z) : (words l)[i]? = some (.int .u64 z) := by simp [words, h]
theorem vb_at {l : List Bool} {i : Nat} {z : Bool} (h : l[i]? = some z) : (vb l)[i]? = some (.bool z) := by simp [vb, h]
theorem ints_set (l : List Int) (i : Nat) (z : Int) : ints (l.set i z) = (ints l).set i (.int .i64 z) := by simp [ints, List.map_set]
theorem words_set (l : List Int) (i : Nat) (z : Int) : words (l.set i z) = (words l).set i (.int .u64 z) := by simp [words, List.map_set]
theorem vb_set (l : List Bool) (i : Nat) (z : Bool) : vb (l.set i z) = (vb l).set i (.bool z) := by simp [vb, List.map_set]
theorem one_ints (zs : List Int) : ∀ u ∈ ints zs, u.oneCell' = true := by
  intro u hu; simp only [ints, List.mem_map] at hu; obtain ⟨z, _, rfl⟩ := hu; rfl
theorem one_words (zs : List Int) : ∀ u ∈ words zs, u.oneCell' = true := by
  intro u hu; simp only [words, List.mem_map] at hu; obtain ⟨z, _, rfl⟩ := hu; rfl
theorem one_vb (zs : List Bool) : ∀ u ∈ vb zs, u.oneCell' = true := by
  intro u hu; simp only [vb, List.mem_map] at hu; obtain ⟨z, _, rfl⟩ := hu; rfl

theorem Try.el24 : Elem Try.prog 24 4 (.bool false) 1 1 := ⟨Try.underlying24, by kernel_rfl, rfl, by omega⟩
theorem Try.el22 : Elem Try.prog 22 3 (.int .i64 0) 1 8 := ⟨Try.underlying22, by kernel_rfl, rfl, by omega⟩
theorem Try.el47 : Elem Try.prog 47 31 (.int .u64 0) 1 8 := ⟨Try.underlying47, by kernel_rfl, rfl, by omega⟩
theorem Try.el23 : Elem Try.prog 23 49 (.agg #[.slice none 0 0, .slice none 0 0]) 2 48 := ⟨Try.underlying23, by kernel_rfl, rfl, by omega⟩

/-- the two slices of a node -/
def NdRd (w : World) (p : Value × Value) (x : List Int × List Int) : Prop := ∃ A c B d, p = (.slice A x.1.length c, .slice B x.2.length d) ∧ Rd w A x.1.length 1 (ints x.1) ∧ Rd w B x.2.length 1 (words x.2)
def GRd (w : World) (v : Value) (g : Gr) : Prop := ∃ A a B b C c ps, v = .agg #[.slice A g.ns.length a, .slice B g.us.length b, .slice C g.rs.length c] ∧
  Rd w A g.ns.length 2 (vals ps) ∧ Rd w B g.us.length 1 (vb g.us) ∧ Rd w C g.rs.length 1 (ints g.rs) ∧ ∀ (i : Nat) (p : Value × Value) (x : List Int × List Int), ps[i]? = some p → g.ns[i]? = some x → NdRd w p x
theorem NdRd.ext {w w' : World} {p : Value × Value} {x : List Int × List Int} (h : NdRd w p x) (he : Ext w w') : NdRd w' p x := by
  obtain ⟨A, c, B, d, hp, h1, h2⟩ := h
  exact ⟨A, c, B, d, hp, h1.ext he, h2.ext he⟩
theorem GRd.ext {w w' : World} {v : Value} {g : Gr} (h : GRd w v g) (he : Ext w w') : GRd w' v g := by
  obtain ⟨A, a, B, b, C, c, ps, hv, h1, h2, h3, h4⟩ := h
  exact ⟨A, a, B, b, C, c, ps, hv, h1.ext he, h2.ext he, h3.ext he, fun i p x hp hx => (h4 i p x hp hx).ext he⟩

inductive Ky where
  | A | B | C
  | R (i : Nat)
  | D (i : Nat)
def kv (vA vB vC : Value) (ps : List (Value × Value)) : Ky → Option Nat
  | .A => vA.ownBlock
  | .B => vB.ownBlock
  | .C => vC.ownBlock
  | .R i => ps[i]?.bind (·.1.ownBlock)
  | .D i => ps[i]?.bind (·.2.ownBlock)
/-- a graph of the call's own; o: the block of the variable that holds it -/
structure GOwn (w : World) (base o : Nat) (vA vB vC : Value) (ps : List (Value × Value)) (g : Gr) : Prop where
  nodes : w.ownsRow base 49 2 vA g.ns.length (vals ps)
  used : w.ownsRow base 4 1 vB g.us.length (vb g.us)
  roots : w.ownsRow base 3 1 vC g.rs.length (ints g.rs)
  each : ∀ (i : Nat) (p : Value × Value) (x : List Int × List Int), ps[i]? = some p → g.ns[i]? = some x → w.ownsRow base 3 1 p.1 x.1.length (ints x.1) ∧ w.ownsRow base 31 1 p.2 x.2.length (words x.2)
  apart : ∀ k k' b, kv vA vB vC ps k = some b → kv vA vB vC ps k' = some b → k = k'
  off : ∀ k, kv vA vB vC ps k ≠ some o

theorem own_slice {w : World} {base : Nat} {e : TypeId} {size n : Nat} {v : Value} {xs : List Value} (h : w.ownsRow base e size v n xs) : ∃ A c, v = .slice A n c := by
  rcases h.2 with ⟨h0, hz⟩ | ⟨g, cap, cur, hv, _⟩
  · exact ⟨none, 0, by rw [h0, hz]⟩
  · exact ⟨_, cap, hv⟩
theorem own_at {w : World} {base : Nat} {e : TypeId} {size n : Nat} {v : Value} {xs : List Value} (h : w.ownsRow base e size v n xs) (hn : 0 < n) : ∃ b c, v = .slice (some ⟨b, 0, none⟩) n c := by
  rcases h.2 with ⟨h0, hz⟩ | ⟨g, cap, cur, hv, _⟩
  · omega
  · exact ⟨_, cap, hv⟩

section
variable {w w' : World} {base o : Nat} {vA vB vC : Value} {ps : List (Value × Value)} {g : Gr}
theorem GOwn.len (h : GOwn w base o vA vB vC ps g) : ps.length = g.ns.length := by
  have := h.nodes.1
  rw [vals_len] at this
  omega
theorem GOwn.pair (h : GOwn w base o vA vB vC ps g) {i : Nat} {p : Value × Value} (hp : ps[i]? = some p) : ∃ x, g.ns[i]? = some x ∧ w.ownsRow base 3 1 p.1 x.1.length (ints x.1) ∧ w.ownsRow base 31 1 p.2 x.2.length (words x.2) := by
  have hl := (List.getElem?_eq_some_iff.1 hp).1
  rw [h.len] at hl
  exact ⟨_, List.getElem?_eq_getElem hl, h.each i p _ hp (List.getElem?_eq_getElem hl)⟩
theorem GOwn.lt (h : GOwn w base o vA vB vC ps g) : ∀ k b, kv vA vB vC ps k = some b → base ≤ b ∧ b < w.heap.size
  | .A, b, hk => World.ownsRow.lt h.nodes b hk
  | .B, b, hk => World.ownsRow.lt h.used b hk
  | .C, b, hk => World.ownsRow.lt h.roots b hk
  | .R i, b, hk => by
    simp only [kv, Option.bind_eq_some_iff] at hk
    obtain ⟨p, hp, hb⟩ := hk
    obtain ⟨x, _, h1, _⟩ := h.pair hp
    exact World.ownsRow.lt h1 b hb
  | .D i, b, hk => by
    simp only [kv, Option.bind_eq_some_iff] at hk
    obtain ⟨p, hp, hb⟩ := hk
    obtain ⟨x, _, _, h1⟩ := h.pair hp
    exact World.ownsRow.lt h1 b hb
theorem GOwn.but {S : List Nat} (h : GOwn w base o vA vB vC ps g) (he : But S w w') (hS : ∀ k b, kv vA vB vC ps k = some b → b ∉ S) : GOwn w' base o vA vB vC ps g :=
  ⟨own_but h.nodes he (fun b hb => hS .A b hb), own_but h.used he (fun b hb => hS .B b hb), own_but h.roots he (fun b hb => hS .C b hb),
    fun i p x hp hx => ⟨own_but (h.each i p x hp hx).1 he (fun b hb => hS (.R i) b (by simp only [kv, hp, Option.bind_some, hb])), own_but (h.each i p x hp hx).2 he (fun b hb => hS (.D i) b (by simp only [kv, hp, Option.bind_some, hb]))⟩, h.apart, h.off⟩
theorem GOwn.ext (h : GOwn w base o vA vB vC ps g) (he : Ext w w') : GOwn w' base o vA vB vC ps g := h.but (he.but []) (fun _ _ _ => by simp)
theorem GOwn.base_ (h : GOwn w base o vA vB vC ps g) {base' : Nat} (hb : base' ≤ base) : GOwn w base' o vA vB vC ps g :=
  ⟨own_base h.nodes hb, own_base h.used hb, own_base h.roots hb, fun i p x hp hx => ⟨own_base (h.each i p x hp hx).1 hb, own_base (h.each i p x hp hx).2 hb⟩, h.apart, h.off⟩
theorem GOwn.off_ (h : GOwn w base o vA vB vC ps g) {o' : Nat} (ho : w.heap.size ≤ o') : GOwn w base o' vA vB vC ps g :=
  ⟨h.nodes, h.used, h.roots, h.each, h.apart, fun k hk => by have := (h.lt k o' hk).2; omega⟩
theorem GOwn.offb (h : GOwn w base o vA vB vC ps g) {o' : Nat} (ho : o' < base) : GOwn w base o' vA vB vC ps g :=
  ⟨h.nodes, h.used, h.roots, h.each, h.apart, fun k hk => by have := (h.lt k o' hk).1; omega⟩
/-- a store elsewhere -/
theorem GOwn.far (h : GOwn w base o vA vB vC ps g) {a : Addr} (ha : ∀ k, kv vA vB vC ps k ≠ some a.block) (u : Value) : GOwn (w.setCell a u) base o vA vB vC ps g :=
  h.but (But.setCell (S := [a.block]) (But.refl _ _) (by simp) u) (fun k b hk hb => by have := List.mem_singleton.1 hb; subst this; exact ha k hk)
theorem GOwn.rd (h : GOwn w base o vA vB vC ps g) : GRd w (.agg #[vA, vB, vC]) g := by
  obtain ⟨A, a, rfl⟩ := own_slice h.nodes
  obtain ⟨B, b, rfl⟩ := own_slice h.used
  obtain ⟨C, c, rfl⟩ := own_slice h.roots
  refine ⟨A, a, B, b, C, c, ps, rfl, Rd.of_own h.nodes, Rd.of_own h.used, Rd.of_own h.roots, fun i p x hp hx => ?_⟩
  obtain ⟨h1, h2⟩ := h.each i p x hp hx
  obtain ⟨p1, p2⟩ := p
  obtain ⟨A', a', rfl⟩ := own_slice h1
  obtain ⟨B', b', rfl⟩ := own_slice h2
  exact ⟨A', a', B', b', rfl, Rd.of_own h1, Rd.of_own h2⟩
/-- Used[i] = u -/
theorem GOwn.setU {b n c : Nat} (h : GOwn w base o vA vB vC ps g) (hv : vB = .slice (some ⟨b, 0, none⟩) n c) (i : Nat) (u : Bool) : GOwn (w.setCell ⟨b, i, none⟩ (.bool u)) base o vA vB vC ps { g with us := g.us.set i u } := by
  have hk : kv vA vB vC ps .B = some b := by rw [hv]; rfl
  have hB : But [b] w (w.setCell ⟨b, i, none⟩ (.bool u)) := But.setCell (But.refl _ _) (by simp) _
  have hne : ∀ k, k ≠ .B → ∀ b', kv vA vB vC ps k = some b' → b' ∉ [b] := fun k hkb b' hb hm => by
    have := List.mem_singleton.1 hm; subst this; exact hkb (h.apart _ _ _ hb hk)
  refine ⟨own_but h.nodes hB (hne .A (by simp)), ?_, own_but h.roots hB (hne .C (by simp)), fun j p x hp hx => ⟨own_but (h.each j p x hp hx).1 hB (fun b' hb => hne (.R j) (by simp) b' (by simp only [kv, hp, Option.bind_some, hb])), own_but (h.each j p x hp hx).2 hB (fun b' hb => hne (.D j) (by simp) b' (by simp only [kv, hp, Option.bind_some, hb]))⟩, h.apart, h.off⟩
  have hu := h.used
  obtain ⟨A, a, hs⟩ := own_slice hu
  rw [hs] at hv
  injection hv with hv1 hv2 hv3
  subst hv1 hv2 hv3
  subst hs
  show World.ownsRow _ base 4 1 _ (g.us.set i u).length (vb (g.us.set i u))
  rw [List.length_set, vb_set]
  exact own_set hu i _
/-- Roots[i] = r -/
theorem GOwn.setC {b n c : Nat} (h : GOwn w base o vA vB vC ps g) (hv : vC = .slice (some ⟨b, 0, none⟩) n c) (i : Nat) (u : Int) : GOwn (w.setCell ⟨b, i, none⟩ (.int .i64 u)) base o vA vB vC ps { g with rs := g.rs.set i u } := by
  have hk : kv vA vB vC ps .C = some b := by rw [hv]; rfl
  have hB : But [b] w (w.setCell ⟨b, i, none⟩ (.int .i64 u)) := But.setCell (But.refl _ _) (by simp) _
  have hne : ∀ k, k ≠ .C → ∀ b', kv vA vB vC ps k = some b' → b' ∉ [b] := fun k hkb b' hb hm => by
    have := List.mem_singleton.1 hm; subst this; exact hkb (h.apart _ _ _ hb hk)
  refine ⟨own_but h.nodes hB (hne .A (by simp)), own_but h.used hB (hne .B (by simp)), ?_, fun j p x hp hx => ⟨own_but (h.each j p x hp hx).1 hB (fun b' hb => hne (.R j) (by simp) b' (by simp only [kv, hp, Option.bind_some, hb])), own_but (h.each j p x hp hx).2 hB (fun b' hb => hne (.D j) (by simp) b' (by simp only [kv, hp, Option.bind_some, hb]))⟩, h.apart, h.off⟩
  have hu := h.roots
  obtain ⟨A, a, hs⟩ := own_slice hu
  rw [hs] at hv
  injection hv with hv1 hv2 hv3
  subst hv1 hv2 hv3
  subst hs
  show World.ownsRow _ base 3 1 _ (g.rs.set i u).length (ints (g.rs.set i u))
  rw [List.length_set, ints_set]
  exact own_set hu i _
/-- Nodes[m].Refs[i] = r -/
theorem GOwn.setR {b n c m : Nat} {p : Value × Value} {x : List Int × List Int} (h : GOwn w base o vA vB vC ps g) (hp : ps[m]? = some p) (hx : g.ns[m]? = some x) (hv : p.1 = .slice (some ⟨b, 0, none⟩) n c) (i : Nat) (u : Int) :
    GOwn (w.setCell ⟨b, i, none⟩ (.int .i64 u)) base o vA vB vC ps { g with ns := g.ns.set m (x.1.set i u, x.2) } := by
  have hk : kv vA vB vC ps (.R m) = some b := by simp only [kv, hp, Option.bind_some]; rw [hv]; rfl
  have hB : But [b] w (w.setCell ⟨b, i, none⟩ (.int .i64 u)) := But.setCell (But.refl _ _) (by simp) _
  have hne : ∀ k, k ≠ .R m → ∀ b', kv vA vB vC ps k = some b' → b' ∉ [b] := fun k hkb b' hb hm => by
    have := List.mem_singleton.1 hm; subst this; exact hkb (h.apart _ _ _ hb hk)
  refine ⟨?_, own_but h.used hB (hne .B (by simp)), own_but h.roots hB (hne .C (by simp)), ?_, h.apart, h.off⟩
  · show World.ownsRow _ base 49 2 _ (g.ns.set m _).length _
    rw [List.length_set]; exact own_but h.nodes hB (hne .A (by simp))
  · intro j q y hq hy
    by_cases hj : j = m
    · subst hj
      rw [hp] at hq; injection hq with hq; subst hq
      have hl := (List.getElem?_eq_some_iff.1 hx).1
      simp only [List.getElem?_set_self hl, Option.some.injEq] at hy
      subst hy
      obtain ⟨h1, h2⟩ := h.each j p x hp hx
      refine ⟨?_, own_but h2 hB (fun b' hb => hne (.D j) (by simp) b' (by simp only [kv, hp, Option.bind_some, hb]))⟩
      obtain ⟨p1, p2⟩ := p
      obtain ⟨A, a, hs⟩ := own_slice h1
      simp only at hs hv h1 ⊢
      rw [hs] at hv
      injection hv with hv1 hv2 hv3
      subst hv1 hv2 hv3
      subst hs
      rw [List.length_set, ints_set]
      exact own_set h1 i _
    · simp only [List.getElem?_set_ne (Ne.symm hj)] at hy
      obtain ⟨h1, h2⟩ := h.each j q y hq hy
      exact ⟨own_but h1 hB (fun b' hb => hne (.R j) (by simp [hj]) b' (by simp only [kv, hq, Option.bind_some, hb])), own_but h2 hB (fun b' hb => hne (.D j) (by simp) b' (by simp only [kv, hq, Option.bind_some, hb]))⟩
/-- Nodes[m].Data[i] = r -/
theorem GOwn.setD {b n c m : Nat} {p : Value × Value} {x : List Int × List Int} (h : GOwn w base o vA vB vC ps g) (hp : ps[m]? = some p) (hx : g.ns[m]? = some x) (hv : p.2 = .slice (some ⟨b, 0, none⟩) n c) (i : Nat) (u : Int) :
    GOwn (w.setCell ⟨b, i, none⟩ (.int .u64 u)) base o vA vB vC ps { g with ns := g.ns.set m (x.1, x.2.set i u) } := by
  have hk : kv vA vB vC ps (.D m) = some b := by simp only [kv, hp, Option.bind_some]; rw [hv]; rfl
  have hB : But [b] w (w.setCell ⟨b, i, none⟩ (.int .u64 u)) := But.setCell (But.refl _ _) (by simp) _
  have hne : ∀ k, k ≠ .D m → ∀ b', kv vA vB vC ps k = some b' → b' ∉ [b] := fun k hkb b' hb hm => by
    have := List.mem_singleton.1 hm; subst this; exact hkb (h.apart _ _ _ hb hk)
  refine ⟨?_, own_but h.used hB (hne .B (by simp)), own_but h.roots hB (hne .C (by simp)), ?_, h.apart, h.off⟩
  · show World.ownsRow _ base 49 2 _ (g.ns.set m _).length _
    rw [List.length_set]; exact own_but h.nodes hB (hne .A (by simp))
  · intro j q y hq hy
    by_cases hj : j = m
    · subst hj
      rw [hp] at hq; injection hq with hq; subst hq
      have hl := (List.getElem?_eq_some_iff.1 hx).1
      simp only [List.getElem?_set_self hl, Option.some.injEq] at hy
      subst hy
      obtain ⟨h1, h2⟩ := h.each j p x hp hx
      refine ⟨own_but h1 hB (fun b' hb => hne (.R j) (by simp) b' (by simp only [kv, hp, Option.bind_some, hb])), ?_⟩
      obtain ⟨p1, p2⟩ := p
      obtain ⟨A, a, hs⟩ := own_slice h2
      simp only at hs hv h2 ⊢
      rw [hs] at hv
      injection hv with hv1 hv2 hv3
      subst hv1 hv2 hv3
      subst hs
      rw [List.length_set, words_set]
      exact own_set h2 i _
    · simp only [List.getElem?_set_ne (Ne.symm hj)] at hy
      obtain ⟨h1, h2⟩ := h.each j q y hq hy
      exact ⟨own_but h1 hB (fun b' hb => hne (.R j) (by simp) b' (by simp only [kv, hq, Option.bind_some, hb])), own_but h2 hB (fun b' hb => hne (.D j) (by simp [hj]) b' (by simp only [kv, hq, Option.bind_some, hb]))⟩
end
end Go.Proofs.Ytamghjilcfeheaa

namespace Go.Proofs.Ytamghjilcfeheaa
open Go.RowKit Go.Draw

theorem but_grown {w w' : World} {r : Option Nat} (h : w.grownBy w' r) : But r.toList w w' :=
  ⟨h.os, h.tape, h.output, h.size, fun k hk hn => h.block k hk (fun e => hn (by rw [← e]; simp))⟩
section
variable {w w' : World} {base o : Nat} {vA vB vC vA' : Value} {ps : List (Value × Value)} {g : Gr} {p : Value × Value} {x : List Int × List Int}
theorem kv_push (hat : vA'.ownBlock = vA.ownBlock ∨ vA'.ownBlock = some w.heap.size) : ∀ k b, kv vA' vB vC (ps ++ [p]) k = some b →
    (k = .A ∧ (kv vA vB vC ps .A = some b ∨ b = w.heap.size)) ∨ (k = .R ps.length ∧ p.1.ownBlock = some b) ∨ (k = .D ps.length ∧ p.2.ownBlock = some b) ∨ (k ≠ .A ∧ kv vA vB vC ps k = some b)
  | .A, b, h => by
    refine Or.inl ⟨rfl, ?_⟩
    simp only [kv] at h ⊢
    rcases hat with e | e
    · left; rw [← e]; exact h
    · right; rw [e] at h; injection h with h; exact h.symm
  | .B, b, h => Or.inr (Or.inr (Or.inr ⟨by simp, h⟩))
  | .C, b, h => Or.inr (Or.inr (Or.inr ⟨by simp, h⟩))
  | .R i, b, h => by
    simp only [kv, Option.bind_eq_some_iff] at h
    obtain ⟨q, hq, hb⟩ := h
    by_cases hi : i < ps.length
    · rw [List.getElem?_append_left hi] at hq
      exact Or.inr (Or.inr (Or.inr ⟨by simp, by simp only [kv, hq, Option.bind_some, hb]⟩))
    · have hl := (List.getElem?_eq_some_iff.1 hq).1
      simp only [List.length_append, List.length_singleton] at hl
      have : i = ps.length := by omega
      subst this
      simp at hq
      subst hq
      exact Or.inr (Or.inl ⟨rfl, hb⟩)
  | .D i, b, h => by
    simp only [kv, Option.bind_eq_some_iff] at h
    obtain ⟨q, hq, hb⟩ := h
    by_cases hi : i < ps.length
    · rw [List.getElem?_append_left hi] at hq
      exact Or.inr (Or.inr (Or.inr ⟨by simp, by simp only [kv, hq, Option.bind_some, hb]⟩))
    · have hl := (List.getElem?_eq_some_iff.1 hq).1
      simp only [List.length_append, List.length_singleton] at hl
      have : i = ps.length := by omega
      subst this
      simp at hq
      subst hq
      exact Or.inr (Or.inr (Or.inl ⟨rfl, hb⟩))
theorem GOwn.push (h : GOwn w base o vA vB vC ps g) (h1 : w.ownsRow base 3 1 p.1 x.1.length (ints x.1)) (h2 : w.ownsRow base 31 1 p.2 x.2.length (words x.2))
    (f1 : ∀ b, p.1.ownBlock = some b → b ≠ o ∧ ∀ k, kv vA vB vC ps k ≠ some b) (f2 : ∀ b, p.2.ownBlock = some b → b ≠ o ∧ (∀ k, kv vA vB vC ps k ≠ some b) ∧ p.1.ownBlock ≠ some b)
    (ha : w'.ownsRow base 49 2 vA' (g.ns.length + 1) (vals ps ++ [p.1, p.2])) (hg : w.grownBy w' vA.ownBlock) (hat : vA'.ownBlock = vA.ownBlock ∨ vA'.ownBlock = some w.heap.size) (ho : o < w.heap.size) :
    GOwn w' base o vA' vB vC (ps ++ [p]) { g with ns := g.ns ++ [x] } := by
  have hB := but_grown hg
  have hlen := h.len
  have hne : ∀ k, k ≠ .A → ∀ b, kv vA vB vC ps k = some b → b ∉ vA.ownBlock.toList := fun k hk b hb hm => by
    have : vA.ownBlock = some b := by simpa using hm
    exact hk (h.apart _ _ _ hb this)
  have hnp : ∀ b, (∀ k, kv vA vB vC ps k ≠ some b) → b ∉ vA.ownBlock.toList := fun b hb hm => by
    have : vA.ownBlock = some b := by simpa using hm
    exact hb .A this
  refine ⟨?_, own_but h.used hB (hne .B (by simp)), own_but h.roots hB (hne .C (by simp)), ?_, ?_, ?_⟩
  · rw [vals_append]; simpa using ha
  · intro i q y hq hy
    by_cases hi : i < ps.length
    · rw [List.getElem?_append_left hi] at hq
      simp only [List.getElem?_append_left (show i < g.ns.length by omega)] at hy
      obtain ⟨k1, k2⟩ := h.each i q y hq hy
      exact ⟨own_but k1 hB (fun b hb => hne (.R i) (by simp) b (by simp only [kv, hq, Option.bind_some, hb])), own_but k2 hB (fun b hb => hne (.D i) (by simp) b (by simp only [kv, hq, Option.bind_some, hb]))⟩
    · have hl := (List.getElem?_eq_some_iff.1 hq).1
      simp only [List.length_append, List.length_singleton] at hl
      have : i = ps.length := by omega
      subst this
      simp at hq
      subst hq
      simp [hlen] at hy
      subst hy
      exact ⟨own_but h1 hB (fun b hb => hnp b (f1 b hb).2), own_but h2 hB (fun b hb => hnp b (f2 b hb).2.1)⟩
  · intro k k' b hk hk'
    have hltA : ∀ k b, kv vA vB vC ps k = some b → b ≠ w.heap.size := fun k b hb => by have := (h.lt k b hb).2; omega
    have hlt1 : ∀ b, p.1.ownBlock = some b → b ≠ w.heap.size := fun b hb => by have := (World.ownsRow.lt h1 b hb).2; omega
    have hlt2 : ∀ b, p.2.ownBlock = some b → b ≠ w.heap.size := fun b hb => by have := (World.ownsRow.lt h2 b hb).2; omega
    rcases kv_push hat k b hk with ⟨rfl, c⟩ | ⟨rfl, c⟩ | ⟨rfl, c⟩ | ⟨n, c⟩ <;> rcases kv_push hat k' b hk' with ⟨rfl, d⟩ | ⟨rfl, d⟩ | ⟨rfl, d⟩ | ⟨m, d⟩
    · rfl
    · rcases c with c | c
      · exact absurd c ((f1 b d).2 .A)
      · exact absurd c (hlt1 b d)
    · rcases c with c | c
      · exact absurd c ((f2 b d).2.1 .A)
      · exact absurd c (hlt2 b d)
    · rcases c with c | c
      · exact h.apart _ _ _ c d
      · exact absurd c (hltA _ _ d)
    · rcases d with d | d
      · exact absurd d ((f1 b c).2 .A)
      · exact absurd d (hlt1 b c)
    · rfl
    · exact absurd c (f2 b d).2.2
    · exact absurd d ((f1 b c).2 _)
    · rcases d with d | d
      · exact absurd d ((f2 b c).2.1 .A)
      · exact absurd d (hlt2 b c)
    · exact absurd d (f2 b c).2.2
    · rfl
    · exact absurd d ((f2 b c).2.1 _)
    · rcases d with d | d
      · exact h.apart _ _ _ c d
      · exact absurd d (hltA _ _ c)
    · exact absurd c ((f1 b d).2 _)
    · exact absurd c ((f2 b d).2.1 _)
    · exact h.apart _ _ _ c d
  · intro k hk
    rcases kv_push hat k o hk with ⟨rfl, c⟩ | ⟨rfl, c⟩ | ⟨rfl, c⟩ | ⟨n, c⟩
    · rcases c with c | c
      · exact h.off _ c
      · omega
    · exact (f1 o c).1 rfl
    · exact (f2 o c).1 rfl
    · exact h.off _ c
end
theorem gown_nil {w : World} {base o : Nat} {vB vC : Value} {us : List Bool} {rs : List Int} (hB : w.ownsRow base 4 1 vB us.length (vb us)) (hC : w.ownsRow base 3 1 vC rs.length (ints rs)) (oB : vB.ownBlock ≠ some o) (oC : vC.ownBlock ≠ some o) :
    GOwn w base o (.slice none 0 0) vB vC [] ⟨[], us, rs⟩ := by
  have hne : ∀ b, vB.ownBlock = some b → vC.ownBlock ≠ some b := fun b h1 h2 => by
    obtain ⟨A, a, rfl⟩ := own_slice hB
    obtain ⟨C, c, rfl⟩ := own_slice hC
    rcases hB.2 with ⟨h0, _⟩ | ⟨q, cap, cur, hv, _, hg, _⟩
    · injection h0 with h0; subst h0; simp [Value.ownBlock] at h1
    · rcases hC.2 with ⟨h0, _⟩ | ⟨q', cap', cur', hv', _, hg', _⟩
      · injection h0 with h0; subst h0; simp [Value.ownBlock] at h2
      · injection hv with hv; injection hv' with hv'
        subst hv hv'
        simp only [Value.ownBlock, Option.some.injEq] at h1 h2
        subst h1; subst h2
        rw [hg] at hg'
        injection hg' with hg'
        injection hg' with _ ht
        exact absurd ht (by decide)
  refine ⟨own_nil _ _ _ _, hB, hC, fun i p x hp _ => by simp at hp, ?_, ?_⟩
  · intro k k' b hk hk'
    cases k <;> cases k' <;> simp [kv, Value.ownBlock] at hk hk' ⊢
    · exact hne b hk hk'
    · exact hne b hk' hk
  · intro k hk
    cases k <;> simp [kv, Value.ownBlock] at hk
    · exact oB hk
    · exact oC hk
end Go.Proofs.Ytamghjilcfeheaa
