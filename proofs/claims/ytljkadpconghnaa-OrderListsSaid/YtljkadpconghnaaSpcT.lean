/- The walk of make.Queue. Conditions: the ranges that each theorem states. -/
import Derived.Test.YtljkadpconghnaaSpcS
namespace Go.Proofs.Ytljkadpconghnaa
open Go.RowKit Go.Draw

theorem Try.elB : Elem Try.prog 26 25 (.slice none 0 0) 1 24 := ⟨Try.underlying26, by kernel_rfl, rfl, by omega⟩
/-- three belts of the call's own -/
structure QO (w : World) (base g : Nat) (vs : List Value) (Q : List (List Inc)) : Prop where
  vl : vs.length = 3
  ql : Q.length = 3
  out : w.ownsRow base 25 1 (.slice (some ⟨g, 0, none⟩) 3 3) 3 vs
  each : ∀ (i : Nat) (v : Value) (q : List Inc), vs[i]? = some v → Q[i]? = some q → w.ownsRow base 24 5 v q.length (flatI q)
  apart : ∀ (i j : Nat) (vi vj : Value) (b : Nat), vs[i]? = some vi → vs[j]? = some vj → vi.ownBlock = some b → vj.ownBlock = some b → i = j
section
variable {w w' : World} {base g : Nat} {vs : List Value} {Q : List (List Inc)}
theorem QO.ext (h : QO w base g vs Q) (he : Ext w w') : QO w' base g vs Q := ⟨h.vl, h.ql, own_ext h.out he, fun i v q hv hq => own_ext (h.each i v q hv hq) he, h.apart⟩
theorem QO.rd (h : QO w base g vs Q) : BRd w (some ⟨g, 0, none⟩) Q := by
  intro _
  refine ⟨g, 0, rfl, fun i q hq => ?_⟩
  have hi := (List.getElem?_eq_some_iff.1 hq).1
  have hv : vs[i]? = some (vs[i]'(by have := h.vl; have := h.ql; omega)) := List.getElem?_eq_getElem _
  have h1 := h.each i _ q hv hq
  obtain ⟨P, c, hP⟩ : ∃ P c, vs[i]'(by have := h.vl; have := h.ql; omega) = .slice P q.length c := by
    rcases h1.2 with ⟨h0, hz⟩ | ⟨k, cap, cur, hv2, _⟩
    · exact ⟨none, 0, by rw [h0, hz]⟩
    · exact ⟨_, cap, hv2⟩
  rw [hP] at hv h1
  refine ⟨P, c, ?_, Rd.of_own h1⟩
  rw [Nat.zero_add]
  exact (own_cells h.out).1 i _ hv
theorem set_some {α : Type} {l : List α} {i j : Nat} {x y : α} (h : (l.set i x)[j]? = some y) : (i = j ∧ y = x ∧ i < l.length) ∨ (i ≠ j ∧ l[j]? = some y) := by
  rw [List.getElem?_set] at h
  by_cases e : i = j
  · rw [if_pos e] at h
    split at h
    · injection h with h
      exact .inl ⟨e, h.symm, by assumption⟩
    · cases h
  · rw [if_neg e] at h
    exact .inr ⟨e, h⟩
/-- an increment more on belt k: w1 is w with new blocks, w2 is behind the append, w3 behind the store -/
theorem QO.push {w1 w2 : World} {k n c n' : Nat} {A A' : Option Addr} {q : List Inc} {i : Inc} {c' : Nat} (h : QO w base g vs Q) (he : Ext w w1) (hv : vs[k]? = some (.slice A n c)) (hq : Q[k]? = some q) (hn' : n' = q.length + 1)
    (ho : w2.ownsRow base 24 5 (.slice A' n' c') n' (flatI q ++ flatI [i])) (hg : w1.grownBy w2 (Value.slice A n c).ownBlock) (hat : (Value.slice A' n' c').ownBlock = (Value.slice A n c).ownBlock ∨ (Value.slice A' n' c').ownBlock = some w1.heap.size) :
    QO (w2.setCell ⟨g, k, none⟩ (.slice A' n' c')) base g (vs.set k (.slice A' n' c')) (Q.set k (q ++ [i])) := by
  subst hn'
  have h1 := h.ext he
  have hB := but_grown hg
  have hgo : (Value.slice A n c).ownBlock ≠ some g := own_own_ne (h1.each k _ q hv hq) h1.out (by decide)
  have hout2 : w2.ownsRow base 25 1 (.slice (some ⟨g, 0, none⟩) 3 3) 3 vs := own_but h1.out hB (fun b hb hm => hgo (by
    simp only [Value.ownBlock, Option.some.injEq] at hb
    subst hb
    exact Option.mem_toList.1 hm))
  have hng : (Value.slice A' (q.length + 1) c').ownBlock ≠ some g := own_own_ne ho hout2 (by decide)
  have hkl : k < vs.length := (List.getElem?_eq_some_iff.1 hv).1
  refine ⟨by simpa using h.vl, by simpa using h.ql, own_set hout2 k _, ?_, ?_⟩
  · intro j v q' hv' hq'
    rcases set_some hv' with ⟨rfl, rfl, _⟩ | ⟨hne, hv'⟩
    · rcases set_some hq' with ⟨_, rfl, _⟩ | ⟨hne, _⟩
      · rw [flatI_append, List.length_append]
        exact own_away ho hng _
      · exact absurd rfl hne
    · rcases set_some hq' with ⟨e, _, _⟩ | ⟨_, hq'⟩
      · exact absurd e hne
      · have h2 := h1.each j v q' hv' hq'
        have h3 := own_but h2 hB (fun b hb hm => hne (h.apart k j _ v b hv hv' (Option.mem_toList.1 hm) hb))
        exact own_away h3 (own_own_ne h3 hout2 (by decide)) _
  · intro a b va vb x ha hb hxa hxb
    have hlt : ∀ (j : Nat) (v : Value) (y : Nat), vs[j]? = some v → v.ownBlock = some y → y < w1.heap.size := fun j v y hj hy => by
      have hjl := (List.getElem?_eq_some_iff.1 hj).1
      exact (World.ownsRow.lt (h1.each j v _ hj (List.getElem?_eq_getElem (by have := h.vl; have := h.ql; omega))) y hy).2
    rcases set_some ha with ⟨rfl, rfl, _⟩ | ⟨hna, ha⟩
    · rcases set_some hb with ⟨rfl, _, _⟩ | ⟨hnb, hb⟩
      · rfl
      · rcases hat with hat | hat
        · exact h.apart _ _ _ _ x hv hb (hat ▸ hxa) hxb
        · rw [hat] at hxa
          injection hxa with hxa
          have := hlt b vb x hb hxb
          omega
    · rcases set_some hb with ⟨rfl, rfl, _⟩ | ⟨hnb, hb⟩
      · rcases hat with hat | hat
        · exact h.apart _ _ _ _ x ha hv hxa (hat ▸ hxb)
        · rw [hat] at hxb
          injection hxb with hxb
          have := hlt a va x ha hxa
          omega
      · exact h.apart _ _ _ _ x ha hb hxa hxb
end
/-- the increments in their belts -/
def qs (l : List Inc) : List (List Inc) := [l.filter (fun i => i.b == 0), l.filter (fun i => i.b == 1), l.filter (fun i => i.b == 2)]
theorem qs_snoc {l : List Inc} {i : Inc} {k : Nat} (hb : i.b = (k : Int)) (hk : k < 3) {q : List Inc} (hq : (qs l)[k]? = some q) : qs (l ++ [i]) = (qs l).set k (q ++ [i]) := by
  have : k = 0 ∨ k = 1 ∨ k = 2 := by omega
  rcases this with rfl | rfl | rfl
  · simp [qs] at hq
    subst hq
    simp [qs, List.filter_append, List.filter_cons, hb]
  · simp [qs] at hq
    subst hq
    simp [qs, List.filter_append, List.filter_cons, hb]
  · simp [qs] at hq
    subst hq
    simp [qs, List.filter_append, List.filter_cons, hb]
theorem qs_len {l : List Inc} {k : Nat} {q : List Inc} (hq : (qs l)[k]? = some q) : q.length ≤ l.length := by
  have hk := (List.getElem?_eq_some_iff.1 hq).1
  simp only [qs, List.length_cons, List.length_nil] at hk
  have : k = 0 ∨ k = 1 ∨ k = 2 := by omega
  rcases this with rfl | rfl | rfl <;> (simp [qs] at hq; subst hq; exact List.length_filter_le _ _)
theorem own_bel_alloc {N : Nat} {S : List Nat} {w : World} {ob : Obj} {base n size : Nat} {v : Value} {e : TypeId} {xs : List Value} (_ : Bel N S w (w.alloc ob)) (k : w.ownsRow base e size v n xs) : (w.alloc ob).ownsRow base e size v n xs := own_alloc k _
theorem bel_drew {N : Nat} {S : List Nat} {a b : World} (h : Bel N S a.drew b) : Bel N S a b := ⟨h.os, h.tape, h.output, h.size, h.block⟩
theorem bel_but {S : List Nat} {w w' : World} (h : Bel w.heap.size S w w') : But S w w' := ⟨h.os, h.tape, h.output, h.size, fun k hk hs => h.block (Nat.le_refl _) k hk hs⟩
theorem But.more {S S' : List Nat} {w w' : World} (h : But S w w') (hs : ∀ q ∈ S, q ∈ S') : But S' w w' := ⟨h.os, h.tape, h.output, h.size, fun k hk hn => h.block k hk (fun hm => hn (hs k hm))⟩
set_option maxRecDepth 100000 in
set_option maxHeartbeats 4000000 in
theorem queue_any (A : Option Addr) (c : Nat) (l : List Inc) (w : World) (h : Rd w A l.length 5 (flatI l)) (hl : l.length ≤ 100) (hb : ∀ i ∈ l, 0 ≤ i.b ∧ i.b < 3) :
    Calls Try.prog 15 #[.slice A l.length c, .int .i64 3] w fun r w' => ∃ g, r = .returned (.slice (some ⟨g, 0, none⟩) 3 3) ∧ BRd w' (some ⟨g, 0, none⟩) (qs l) ∧ Ext w w' := by
  have hmk : ∀ W : World, (Instr.makeSlice 26 (.int .i64 3) (.int .i64 3)).run Try.prog W = .ok (.slice (some ⟨W.heap.size, 0, none⟩) 3 3) (W.alloc (.cells #[.slice none 0 0, .slice none 0 0, .slice none 0 0] 25)) := fun W => run_mk (P := Try.prog) Try.elB rfl 3 (by omega) (by omega) W
  have Hb := Lib.hid hb
  clear hb
  go_enter Try.func15, Try.ntmps15
  go_wp2
  have kq : QO (w.alloc (.cells #[.slice none 0 0, .slice none 0 0, .slice none 0 0] 25)) w.heap.size w.heap.size [.slice none 0 0, .slice none 0 0, .slice none 0 0] (qs []) := by
    refine ⟨rfl, rfl, own_new (cs := [.slice none 0 0, .slice none 0 0, .slice none 0 0]) rfl (Nat.le_refl _) (by omega) rfl, ?_, ?_⟩
    · intro i v q hv hq
      have hi := (List.getElem?_eq_some_iff.1 hv).1
      simp only [List.length_cons, List.length_nil] at hi
      have : i = 0 ∨ i = 1 ∨ i = 2 := by omega
      rcases this with rfl | rfl | rfl <;> (simp [qs] at hv hq; subst hv; subst hq; exact own_nil _ _ _ _)
    · intro i j vi vj b hi hj hvi hvj
      have hil := (List.getElem?_eq_some_iff.1 hi).1
      simp only [List.length_cons, List.length_nil] at hil
      have : i = 0 ∨ i = 1 ∨ i = 2 := by omega
      rcases this with rfl | rfl | rfl <;> (simp at hi; subst hi; simp [Value.ownBlock] at hvi)
  have hE0 : Ext w (w.alloc (.cells #[.slice none 0 0, .slice none 0 0, .slice none 0 0] 25)) := by (repeat (first | (with_reducible exact Ext.refl _) | assumption | (with_reducible refine Ext.alloc ?_ _) | (with_reducible refine Ext.drew ?_) | (with_reducible refine Ext.drewL ?_) | refine Ext.trans ?_ (by assumption)))
  generalize w.alloc (.cells #[.slice none 0 0, .slice none 0 0, .slice none 0 0] 25) = W0 at *
  obtain ⟨g, hg⟩ : ∃ g, w.heap.size = g := ⟨_, rfl⟩
  rw [hg] at kq ⊢
  have hga : w.heap.size ≤ g := by omega
  clear hg hmk
  go_loopw [12] (fun s wr => ∃ (k : Nat) (vs : List Value), k ≤ l.length ∧ s = .int .i64 k ∧ QO wr g g vs (qs (l.take k)) ∧ Ext w wr) (fun s _ => l.length - (intOf s).toNat)
  case atStart => exact ⟨0, _, by omega, rfl, kq, hE0⟩
  case round =>
    clear kq hE0
    obtain ⟨k, vs, hk, rfl, kq, hE⟩ := hrel
    by_cases hlt : k < l.length
    · have hdec : decide ((k : Int) < l.length) = true := by simp; omega
      have hdec' : decide (k < l.length) = true := by simp; omega
      have hkI : (k : Int) < l.length := by omega
      obtain ⟨i, hi⟩ : ∃ i, l[k]? = some i := ⟨_, List.getElem?_eq_getElem hlt⟩
      obtain ⟨b1, o1, rfl, c0, c1, c2, c3, c4⟩ := inc_at (h.ext hE) hi
      have l1 := cell_lt c0
      obtain ⟨hb0, hb3⟩ := Hb.out i (List.mem_of_getElem? hi)
      obtain ⟨m, hm⟩ : ∃ m : Nat, i.b = (m : Int) := ⟨i.b.toNat, by omega⟩
      have hm3 : m < 3 := by omega
      rw [hm] at c1
      have Hm := Lib.hid hm
      have Hi := Lib.hid hi
      clear hb0 hb3 hm hi
      have dm : decide ((m : Int) < 3) = true := by (first | omega | (simp; done) | (simp; omega))
      have dm' : decide (m < 3) = true := by (first | omega | (simp; done) | (simp; omega))
      have hmI : (m : Int) < 3 := by omega
      have hv : vs[m]? = some (vs[m]'(by have := kq.vl; omega)) := List.getElem?_eq_getElem _
      have hq : (qs (l.take k))[m]? = some ((qs (l.take k))[m]'(by have := kq.ql; omega)) := List.getElem?_eq_getElem _
      generalize vs[m]'(by have := kq.vl; omega) = v at hv
      generalize (qs (l.take k))[m]'(by have := kq.ql; omega) = q at hq
      have hvo := kq.each m v q hv hq
      have hq100 : q.length ≤ 100 := by
        have := qs_len hq
        rw [List.length_take] at this
        omega
      obtain ⟨P, pc, rfl⟩ : ∃ P c, v = .slice P q.length c := by
        rcases hvo.2 with ⟨h0, hz⟩ | ⟨k, cap, cur, hv2, _⟩
        · exact ⟨none, 0, by rw [h0, hz]⟩
        · exact ⟨_, cap, hv2⟩
      have Hv := Lib.hid hv
      have Hq := Lib.hid hq
      clear hv hq
      go_upto_region 6 with fail
      have hX5 := Ext.alloc (Ext.refl wr) (.cells #[.int .i64 i.q, .int .i64 m, .int .i64 i.f, .int .i64 i.l, .int .i64 i.w] 24)
      have kB : Blk (wr.alloc (.cells #[.int .i64 i.q, .int .i64 m, .int .i64 i.f, .int .i64 i.l, .int .i64 i.w] 24)) wr.heap.size 24 #[.int .i64 i.q, .int .i64 m, .int .i64 i.f, .int .i64 i.l, .int .i64 i.w] := Blk.new rfl
      generalize wr.alloc (.cells #[.int .i64 i.q, .int .i64 m, .int .i64 i.f, .int .i64 i.l, .int .i64 i.w] 24) = W at hX5 kB ⊢
      have kqW := kq.ext hX5
      have hv5 := own_ext hvo hX5
      have cB := kB.cell
      have lB := kB.lt
      have kOw : W.drew.ownsRow g 25 1 (.slice (some ⟨g, 0, none⟩) 3 3) 3 vs := kqW.out
      have hlO := World.ownsRow.lt kq.out g rfl
      have hlV := World.ownsRow.lt hvo
      have hgo : (Value.slice P q.length pc).ownBlock ≠ some g := own_own_ne hvo kq.out (by decide)
      have hgA : ∀ b, (Value.slice (some ⟨g, 0, none⟩) 3 3).ownBlock = some b → b ∉ (Value.slice P q.length pc).ownBlock.toList := fun b hb hm => hgo (by
        simp only [Value.ownBlock, Option.some.injEq] at hb
        subst hb
        exact Option.mem_toList.1 hm)
      obtain ⟨S, hS⟩ : ∃ S : List Nat, S = g :: (Value.slice P q.length pc).ownBlock.toList := ⟨_, rfl⟩
      have hgS : g ∈ S := by rw [hS]; simp
      have hAS : ∀ q' ∈ (Value.slice P q.length pc).ownBlock.toList, q' ∈ S := fun q' hq' => by rw [hS]; exact List.mem_cons_of_mem _ hq'
      have hSW : ∀ q' ∈ S, w.heap.size ≤ q' ∧ q' < wr.heap.size := fun q' hq' => by
        rw [hS, List.mem_cons] at hq'
        rcases hq' with rfl | hq'
        · exact ⟨hga, hlO.2⟩
        · have := hlV q' (Option.mem_toList.1 hq')
          exact ⟨by omega, this.2⟩
      have hnS : wr.heap.size ∉ S := fun hm => by have := (hSW _ hm).2; omega
      have cOw0 := (own_cells kqW.out).1 m _ Hv.out
      have hgW : g < W.heap.size := by have := hX5.size_le; omega
      clear hS hlO hlV c0 c1 c2 c3 c4 l1
      refine wp_region_treeN (W.heap.size) S (.take 0 (.take 1 (.take 2 (.take 3 (.take 4 (.take 5 (.take 6 (.take 8 (.alt 7 (.alt 9 (.alt 10 (.take 11 (.alt 12 .done .none)) .none) .none) (.alt 9 (.alt 7 (.alt 10 (.take 11 (.alt 12 .done .none)) .none) .none) .none)))))))))) Try.mixed (by kernel_rfl) ?_
      intro hx
      first
        | (refine wpT_takeN hx (by simp) (v := ?_) (List.getElem?_toArray.trans (by rfl)) (by rfl) (fun _ hc => ?_) ?_
           rotate_left
           focus (go_simp; (try go_ints); exact rfl)
           simp only [Act.put, List.setIfInBounds_toArray, List.set_cons_zero, List.set_cons_succ])
        | (refine wpT_skip (List.getElem?_toArray.trans (by rfl)) (by rfl) ?_; simp only [Act.put, List.setIfInBounds_toArray, List.set_cons_zero, List.set_cons_succ])
      first
        | (refine wpT_takeN hx (by simp) (v := ?_) (List.getElem?_toArray.trans (by rfl)) (by rfl) (fun _ hc => ?_) ?_
           rotate_left
           focus (go_simp; (try go_ints); exact rfl)
           simp only [Act.put, List.setIfInBounds_toArray, List.set_cons_zero, List.set_cons_succ])
        | (refine wpT_skip (List.getElem?_toArray.trans (by rfl)) (by rfl) ?_; simp only [Act.put, List.setIfInBounds_toArray, List.set_cons_zero, List.set_cons_succ])
      first
        | (refine wpT_takeN hx (by simp) (v := ?_) (List.getElem?_toArray.trans (by rfl)) (by rfl) (fun _ hc => ?_) ?_
           rotate_left
           focus (go_simp; (try go_ints); exact rfl)
           simp only [Act.put, List.setIfInBounds_toArray, List.set_cons_zero, List.set_cons_succ])
        | (refine wpT_skip (List.getElem?_toArray.trans (by rfl)) (by rfl) ?_; simp only [Act.put, List.setIfInBounds_toArray, List.set_cons_zero, List.set_cons_succ])
      first
        | (refine wpT_takeN hx (by simp) (v := ?_) (List.getElem?_toArray.trans (by rfl)) (by rfl) (fun _ hc => ?_) ?_
           rotate_left
           focus (go_simp; (try go_ints); exact rfl)
           simp only [Act.put, List.setIfInBounds_toArray, List.set_cons_zero, List.set_cons_succ])
        | (refine wpT_skip (List.getElem?_toArray.trans (by rfl)) (by rfl) ?_; simp only [Act.put, List.setIfInBounds_toArray, List.set_cons_zero, List.set_cons_succ])
      first
        | (refine wpT_takeN hx (by simp) (v := ?_) (List.getElem?_toArray.trans (by rfl)) (by rfl) (fun _ hc => ?_) ?_
           rotate_left
           focus (go_simp; (try go_ints); exact rfl)
           simp only [Act.put, List.setIfInBounds_toArray, List.set_cons_zero, List.set_cons_succ])
        | (refine wpT_skip (List.getElem?_toArray.trans (by rfl)) (by rfl) ?_; simp only [Act.put, List.setIfInBounds_toArray, List.set_cons_zero, List.set_cons_succ])
      first
        | (refine wpT_takeN hx (by simp) (v := ?_) (List.getElem?_toArray.trans (by rfl)) (by rfl) (fun _ hc => ?_) ?_
           rotate_left
           focus (go_simp; (try go_ints); exact rfl)
           simp only [Act.put, List.setIfInBounds_toArray, List.set_cons_zero, List.set_cons_succ])
        | (refine wpT_skip (List.getElem?_toArray.trans (by rfl)) (by rfl) ?_; simp only [Act.put, List.setIfInBounds_toArray, List.set_cons_zero, List.set_cons_succ])
      first
        | (refine wpT_takeN hx (by simp) (v := ?_) (List.getElem?_toArray.trans (by rfl)) (by rfl) (fun _ hc => ?_) ?_
           rotate_left
           focus (go_simp; (try go_ints); exact rfl)
           simp only [Act.put, List.setIfInBounds_toArray, List.set_cons_zero, List.set_cons_succ])
        | (refine wpT_skip (List.getElem?_toArray.trans (by rfl)) (by rfl) ?_; simp only [Act.put, List.setIfInBounds_toArray, List.set_cons_zero, List.set_cons_succ])
      first
        | (refine wpT_takeN hx (by simp) (v := ?_) (List.getElem?_toArray.trans (by rfl)) (by rfl) (fun _ hc => ?_) ?_
           rotate_left
           focus (go_simp; (try go_ints); exact rfl)
           simp only [Act.put, List.setIfInBounds_toArray, List.set_cons_zero, List.set_cons_succ])
        | (refine wpT_skip (List.getElem?_toArray.trans (by rfl)) (by rfl) ?_; simp only [Act.put, List.setIfInBounds_toArray, List.set_cons_zero, List.set_cons_succ])
      refine wpT_call (List.getElem?_toArray.trans (by rfl)) (by rfl) (fun K hK => ?_) ?_
      · skip
        have cOw := cOw0
        go_simp
        first | (refine hK _ _ ?_ ?_; (focus ((repeat (first | (with_reducible exact Bel.refl _ _ _) | assumption | (with_reducible exact Bel.alloc1 (by first | assumption | omega | (simp; omega))) | (with_reducible refine Bel.drew ?_) | (with_reducible refine Bel.drewL ?_) | (with_reducible refine Bel.setCell ?_ ?_ _; rotate_left; (focus (first | omega | (simp; done) | (simp; omega)))) | (with_reducible refine Bel.alloc ?_ _))); done))) | (refine hK undef _ ?_ ?_; (focus ((repeat (first | (with_reducible exact Bel.refl _ _ _) | assumption | (with_reducible exact Bel.alloc1 (by first | assumption | omega | (simp; omega))) | (with_reducible refine Bel.drew ?_) | (with_reducible refine Bel.drewL ?_) | (with_reducible refine Bel.setCell ?_ ?_ _; rotate_left; (focus (first | omega | (simp; done) | (simp; omega)))) | (with_reducible refine Bel.alloc ?_ _))); done)))
        clear hK
        intro hr
        replace hx := hx.trans hr
        clear hr
        try simp only [Act.put, List.setIfInBounds_toArray, List.set_cons_zero, List.set_cons_succ]
        refine wpT_call (List.getElem?_toArray.trans (by rfl)) (by rfl) (fun K hK => ?_) ?_
        · skip
          
          go_simp
          first | (refine hK _ _ ?_ ?_; (focus ((repeat (first | (with_reducible exact Bel.refl _ _ _) | assumption | (with_reducible exact Bel.alloc1 (by first | assumption | omega | (simp; omega))) | (with_reducible refine Bel.drew ?_) | (with_reducible refine Bel.drewL ?_) | (with_reducible refine Bel.setCell ?_ ?_ _; rotate_left; (focus (first | omega | (simp; done) | (simp; omega)))) | (with_reducible refine Bel.alloc ?_ _))); done))) | (refine hK undef _ ?_ ?_; (focus ((repeat (first | (with_reducible exact Bel.refl _ _ _) | assumption | (with_reducible exact Bel.alloc1 (by first | assumption | omega | (simp; omega))) | (with_reducible refine Bel.drew ?_) | (with_reducible refine Bel.drewL ?_) | (with_reducible refine Bel.setCell ?_ ?_ _; rotate_left; (focus (first | omega | (simp; done) | (simp; omega)))) | (with_reducible refine Bel.alloc ?_ _))); done)))
          clear hK
          intro hr
          replace kOw := own_bel_alloc hr kOw
          replace hx := hx.trans hr
          clear hr
          try simp only [Act.put, List.setIfInBounds_toArray, List.set_cons_zero, List.set_cons_succ]
          refine wpT_call (List.getElem?_toArray.trans (by rfl)) (by rfl) (fun K hK => ?_) ?_
          · skip
            refine wp_append Try.elN _ _ rfl g _ _ _ rfl (own_ext hv5 (by (repeat (first | (with_reducible exact Ext.refl _) | assumption | (with_reducible refine Ext.alloc ?_ _) | (with_reducible refine Ext.drew ?_) | (with_reducible refine Ext.drewL ?_) | refine Ext.trans ?_ (by assumption))))) _ 1 1 _ rfl (rd_new _ [_, _, _, _, _] 24 1 5 rfl) (by simp [Value.oneCell']) (by omega) (by omega) (by (first | omega | (simp; done) | (simp; omega))) ?_
            intro A2 a2 w3 hv3 hg3 hat3
            refine hK _ _ (((But.more (but_grown hg3) hAS).bel _)) ?_
            clear hK
            intro hr
            replace hx := hx.trans hr
            clear hr
            try simp only [Act.put, List.setIfInBounds_toArray, List.set_cons_zero, List.set_cons_succ]
            first
              | (refine wpT_takeN hx (by simp) (v := ?_) (List.getElem?_toArray.trans (by rfl)) (by rfl) (fun _ hc => ?_) ?_
                 rotate_left
                 focus (go_simp; (try go_ints); exact rfl)
                 simp only [Act.put, List.setIfInBounds_toArray, List.set_cons_zero, List.set_cons_succ])
              | (refine wpT_skip (List.getElem?_toArray.trans (by rfl)) (by rfl) ?_; simp only [Act.put, List.setIfInBounds_toArray, List.set_cons_zero, List.set_cons_succ])
            refine wpT_store (List.getElem?_toArray.trans (by rfl)) rfl (by rfl) (fun K hK => ?_) ?_
            · skip
              have kOw := own_but kOw (but_grown hg3) hgA; have cOw := (own_cells kOw).1 m _ Hv.out; have fOw := (own_cells kOw).2
              go_simp
              refine hK _ ?_ ?_
              focus (exact (Bel.setIn (p := ⟨g, m, none⟩) (Bel.refl _ _ _) hgS _); done)
              clear hK
              intro hr
              replace hx := hx.trans hr
              clear hr
              try simp only [Act.put, List.setIfInBounds_toArray, List.set_cons_zero, List.set_cons_succ]
              refine wpT_done ?_
              have kq6 := kqW.push (i := i) (w1 := (W.alloc (.cells #[.int .i64 i.q, .int .i64 m, .int .i64 i.f, .int .i64 i.l, .int .i64 i.w] 24)).drew) (Ext.drew (Ext.alloc (Ext.refl _) _)) Hv.out Hq.out rfl (by simpa only [flatI, Hm.out] using hv3) hg3 hat3
              have hE6 := But.ext (hE.trans hX5) (bel_but (bel_drew hx)) (fun q' hq' => (hSW q' hq').1)
              go_wp2_with fail
              go_roundw
              case rel => exact ⟨k + 1, _, by omega, by go_num, by rw [List.take_add_one, Hi.out]; simp only [Option.toList]; rw [qs_snoc Hm.out hm3 Hq.out]; exact kq6, hE6⟩
              case measure => simp [intOf]; omega
            exact wpT_none
          exact wpT_none
        exact wpT_none
      refine wpT_call (List.getElem?_toArray.trans (by rfl)) (by rfl) (fun K hK => ?_) ?_
      · skip
        
        go_simp
        first | (refine hK _ _ ?_ ?_; (focus ((repeat (first | (with_reducible exact Bel.refl _ _ _) | assumption | (with_reducible exact Bel.alloc1 (by first | assumption | omega | (simp; omega))) | (with_reducible refine Bel.drew ?_) | (with_reducible refine Bel.drewL ?_) | (with_reducible refine Bel.setCell ?_ ?_ _; rotate_left; (focus (first | omega | (simp; done) | (simp; omega)))) | (with_reducible refine Bel.alloc ?_ _))); done))) | (refine hK undef _ ?_ ?_; (focus ((repeat (first | (with_reducible exact Bel.refl _ _ _) | assumption | (with_reducible exact Bel.alloc1 (by first | assumption | omega | (simp; omega))) | (with_reducible refine Bel.drew ?_) | (with_reducible refine Bel.drewL ?_) | (with_reducible refine Bel.setCell ?_ ?_ _; rotate_left; (focus (first | omega | (simp; done) | (simp; omega)))) | (with_reducible refine Bel.alloc ?_ _))); done)))
        clear hK
        intro hr
        replace kOw := own_bel_alloc hr kOw
        replace hx := hx.trans hr
        clear hr
        try simp only [Act.put, List.setIfInBounds_toArray, List.set_cons_zero, List.set_cons_succ]
        refine wpT_call (List.getElem?_toArray.trans (by rfl)) (by rfl) (fun K hK => ?_) ?_
        · skip
          have cOw := cOw0
          go_simp
          first | (refine hK _ _ ?_ ?_; (focus ((repeat (first | (with_reducible exact Bel.refl _ _ _) | assumption | (with_reducible exact Bel.alloc1 (by first | assumption | omega | (simp; omega))) | (with_reducible refine Bel.drew ?_) | (with_reducible refine Bel.drewL ?_) | (with_reducible refine Bel.setCell ?_ ?_ _; rotate_left; (focus (first | omega | (simp; done) | (simp; omega)))) | (with_reducible refine Bel.alloc ?_ _))); done))) | (refine hK undef _ ?_ ?_; (focus ((repeat (first | (with_reducible exact Bel.refl _ _ _) | assumption | (with_reducible exact Bel.alloc1 (by first | assumption | omega | (simp; omega))) | (with_reducible refine Bel.drew ?_) | (with_reducible refine Bel.drewL ?_) | (with_reducible refine Bel.setCell ?_ ?_ _; rotate_left; (focus (first | omega | (simp; done) | (simp; omega)))) | (with_reducible refine Bel.alloc ?_ _))); done)))
          clear hK
          intro hr
          replace hx := hx.trans hr
          clear hr
          try simp only [Act.put, List.setIfInBounds_toArray, List.set_cons_zero, List.set_cons_succ]
          refine wpT_call (List.getElem?_toArray.trans (by rfl)) (by rfl) (fun K hK => ?_) ?_
          · skip
            refine wp_append Try.elN _ _ rfl g _ _ _ rfl (own_ext hv5 (by (repeat (first | (with_reducible exact Ext.refl _) | assumption | (with_reducible refine Ext.alloc ?_ _) | (with_reducible refine Ext.drew ?_) | (with_reducible refine Ext.drewL ?_) | refine Ext.trans ?_ (by assumption))))) _ 1 1 _ rfl (rd_new _ [_, _, _, _, _] 24 1 5 rfl) (by simp [Value.oneCell']) (by omega) (by omega) (by (first | omega | (simp; done) | (simp; omega))) ?_
            intro A2 a2 w3 hv3 hg3 hat3
            refine hK _ _ (((But.more (but_grown hg3) hAS).bel _)) ?_
            clear hK
            intro hr
            replace hx := hx.trans hr
            clear hr
            try simp only [Act.put, List.setIfInBounds_toArray, List.set_cons_zero, List.set_cons_succ]
            first
              | (refine wpT_takeN hx (by simp) (v := ?_) (List.getElem?_toArray.trans (by rfl)) (by rfl) (fun _ hc => ?_) ?_
                 rotate_left
                 focus (go_simp; (try go_ints); exact rfl)
                 simp only [Act.put, List.setIfInBounds_toArray, List.set_cons_zero, List.set_cons_succ])
              | (refine wpT_skip (List.getElem?_toArray.trans (by rfl)) (by rfl) ?_; simp only [Act.put, List.setIfInBounds_toArray, List.set_cons_zero, List.set_cons_succ])
            refine wpT_store (List.getElem?_toArray.trans (by rfl)) rfl (by rfl) (fun K hK => ?_) ?_
            · skip
              have kOw := own_but kOw (but_grown hg3) hgA; have cOw := (own_cells kOw).1 m _ Hv.out; have fOw := (own_cells kOw).2
              go_simp
              refine hK _ ?_ ?_
              focus (exact (Bel.setIn (p := ⟨g, m, none⟩) (Bel.refl _ _ _) hgS _); done)
              clear hK
              intro hr
              replace hx := hx.trans hr
              clear hr
              try simp only [Act.put, List.setIfInBounds_toArray, List.set_cons_zero, List.set_cons_succ]
              refine wpT_done ?_
              have kq6 := kqW.push (i := i) (w1 := (W.alloc (.cells #[.int .i64 i.q, .int .i64 m, .int .i64 i.f, .int .i64 i.l, .int .i64 i.w] 24)).drew) (Ext.drew (Ext.alloc (Ext.refl _) _)) Hv.out Hq.out rfl (by simpa only [flatI, Hm.out] using hv3) hg3 hat3
              have hE6 := But.ext (hE.trans hX5) (bel_but (bel_drew hx)) (fun q' hq' => (hSW q' hq').1)
              go_wp2_with fail
              go_roundw
              case rel => exact ⟨k + 1, _, by omega, by go_num, by rw [List.take_add_one, Hi.out]; simp only [Option.toList]; rw [qs_snoc Hm.out hm3 Hq.out]; exact kq6, hE6⟩
              case measure => simp [intOf]; omega
            exact wpT_none
          exact wpT_none
        exact wpT_none
      exact wpT_none
    · have hdec : decide ((k : Int) < l.length) = false := by simp; omega
      have hdec' : decide (k < l.length) = false := by simp; omega
      have hke : k = l.length := by omega
      rw [hke, List.take_length] at kq
      go_wp2
      go_ret
      exact ⟨g, rfl, kq.rd, hE⟩
end Go.Proofs.Ytljkadpconghnaa
