/- Belts in memory; the walks of All, Slight and SameList. Conditions: the ranges that each theorem states. -/
import Derived.Test.YtljkadpconghnaaSpcQ
import Derived.Laws.StructEq
namespace Go.Proofs.Ytljkadpconghnaa
open Go.RowKit Go.Draw

/-- belts that read -/
def BRd (w : World) (A : Option Addr) (Q : List (List Inc)) : Prop := 0 < Q.length → ∃ b o, A = some ⟨b, o, none⟩ ∧ ∀ (i : Nat) (q : List Inc), Q[i]? = some q → ∃ (P : Option Addr) (c : Nat), w.cell? ⟨b, o + i, none⟩ = some (.slice P q.length c) ∧ Rd w P q.length 5 (flatI q)
theorem BRd.ext {w w' : World} {A : Option Addr} {Q : List (List Inc)} (h : BRd w A Q) (he : Ext w w') : BRd w' A Q := by
  intro h0
  obtain ⟨b, o, hA, hc⟩ := h h0
  refine ⟨b, o, hA, fun i q hq => ?_⟩
  obtain ⟨P, c, h1, h2⟩ := hc i q hq
  exact ⟨P, c, cell_ext he h1, h2.ext he⟩
theorem BRd.at_ {w : World} {A : Option Addr} {Q : List (List Inc)} (h : BRd w A Q) {i : Nat} {q : List Inc} (hq : Q[i]? = some q) : ∃ b o P c, A = some ⟨b, o, none⟩ ∧ w.cell? ⟨b, o + i, none⟩ = some (.slice P q.length c) ∧ Rd w P q.length 5 (flatI q) := by
  obtain ⟨b, o, hA, hc⟩ := h (by have := (List.getElem?_eq_some_iff.1 hq).1; omega)
  obtain ⟨P, c, h1, h2⟩ := hc i q hq
  exact ⟨b, o, P, c, hA, h1, h2⟩
def RetIncs (w : World) (l : List Inc) (r : Ending) (w' : World) : Prop :=
  ∃ A c, r = .returned (.slice A l.length c) ∧ w'.ownsRow w.heap.size 24 5 (.slice A l.length c) l.length (flatI l) ∧ Ext w w'
theorem flat_take {Q : List (List Inc)} {k : Nat} {q : List Inc} (h : Q[k]? = some q) : (Q.take (k + 1)).flatten = (Q.take k).flatten ++ q := by
  rw [List.take_add_one, h]
  simp
theorem flat_le (Q : List (List Inc)) (k : Nat) : (Q.take k).flatten.length ≤ Q.flatten.length := by
  have h : Q.flatten = (Q.take k).flatten ++ (Q.drop k).flatten := by rw [← List.flatten_append, List.take_append_drop]
  rw [h, List.length_append]
  omega

set_option maxRecDepth 100000 in
set_option maxHeartbeats 1000000 in
theorem all_any (A : Option Addr) (c : Nat) (Q : List (List Inc)) (w : World) (h : BRd w A Q) (hn : Q.length ≤ 1000) (hf : Q.flatten.length ≤ 100000) :
    Calls Try.prog 16 #[.slice A Q.length c] w (RetIncs w Q.flatten) := by
  go_enter Try.func16, Try.ntmps16
  go_wp2
  go_loopw [3, 8] (fun s i wr => ∃ (k : Nat) (D : Option Addr) (d : Nat), k ≤ Q.length ∧ i = .int .i64 k ∧ s = .slice D (Q.take k).flatten.length d ∧ wr.ownsRow w.heap.size 24 5 (.slice D (Q.take k).flatten.length d) (Q.take k).flatten.length (flatI (Q.take k).flatten) ∧ Ext w wr) (fun _ i _ => Q.length - (intOf i).toNat)
  case atStart => exact ⟨0, none, 0, by omega, rfl, rfl, own_nil _ _ _ _, by (repeat (first | (with_reducible exact Ext.refl _) | assumption | (with_reducible refine Ext.alloc ?_ _) | (with_reducible refine Ext.drew ?_) | (with_reducible refine Ext.drewL ?_) | refine Ext.trans ?_ (by assumption)))⟩
  case round =>
    obtain ⟨k, D, d, hk, rfl, rfl, hown, hE⟩ := hrel
    have hsz := hE.size_le
    have hfl := flat_le Q k
    by_cases hlt : k < Q.length
    · have hdec : decide ((k : Int) < Q.length) = true := by simp; omega
      have hdec' : decide (k < Q.length) = true := by simp; omega
      have hkI : (k : Int) < Q.length := by omega
      obtain ⟨q, hq⟩ : ∃ q, Q[k]? = some q := ⟨_, List.getElem?_eq_getElem hlt⟩
      obtain ⟨b, o, P, cq, rfl, hc, hP⟩ := (h.ext hE).at_ hq
      have hft := flat_take hq
      have hfl2 := flat_le Q (k + 1)
      have lC := cell_lt hc
      rw [hft, List.length_append] at hfl2
      have Hft := Lib.hid hft
      clear hft hq
      generalize hz : (Q.take k).flatten = z at *
      have Hz := Lib.hid hz
      clear hz
      go_wp2_with (first | (at_builtin; refine wpList_append rfl Try.elN _ _ rfl w.heap.size _ _ _ rfl hown _ q.length _ (flatI q) rfl hP (one_flatI q) (by omega) (by omega) (by (first | omega | (simp; done) | (simp; omega))) ?_; intro A2 a2 w2 hown2 hg2 hat2))
      have hE2 : Ext w w2 := ext_grown hE hg2 hown (Nat.le_refl _)
      have hl2 : (z ++ q).length = z.length + q.length := by simp
      rw [← flatI_append] at hown2
      have Hl2 := Lib.hid hl2
      clear hl2
      go_wp2
      go_roundw
      case rel => exact ⟨k + 1, A2, a2, by omega, by go_num, by rw [Hft.out, Hl2.out], by rw [Hft.out, Hl2.out]; exact hown2, hE2⟩
      case measure => simp [intOf]; omega
    · have hdec : decide ((k : Int) < Q.length) = false := by simp; omega
      have hdec' : decide (k < Q.length) = false := by simp; omega
      have hke : k = Q.length := by omega
      rw [hke, List.take_length] at hown ⊢
      go_wp2
      go_ret
      exact ⟨D, d, rfl, hown, hE⟩
set_option maxRecDepth 100000 in
set_option maxHeartbeats 1000000 in
theorem rall_any (A : Option Addr) (c : Nat) (Q : List (List Inc)) (w : World) (h : BRd w A Q) (hn : Q.length ≤ 1000) (hf : Q.flatten.length ≤ 100000) :
    Calls Try.prog 19 #[.slice A Q.length c] w (RetIncs w Q.flatten) := by
  go_enter Try.func19, Try.ntmps19
  go_wp2
  go_loopw [3, 8] (fun s i wr => ∃ (k : Nat) (D : Option Addr) (d : Nat), k ≤ Q.length ∧ i = .int .i64 k ∧ s = .slice D (Q.take k).flatten.length d ∧ wr.ownsRow w.heap.size 24 5 (.slice D (Q.take k).flatten.length d) (Q.take k).flatten.length (flatI (Q.take k).flatten) ∧ Ext w wr) (fun _ i _ => Q.length - (intOf i).toNat)
  case atStart => exact ⟨0, none, 0, by omega, rfl, rfl, own_nil _ _ _ _, by (repeat (first | (with_reducible exact Ext.refl _) | assumption | (with_reducible refine Ext.alloc ?_ _) | (with_reducible refine Ext.drew ?_) | (with_reducible refine Ext.drewL ?_) | refine Ext.trans ?_ (by assumption)))⟩
  case round =>
    obtain ⟨k, D, d, hk, rfl, rfl, hown, hE⟩ := hrel
    have hsz := hE.size_le
    have hfl := flat_le Q k
    by_cases hlt : k < Q.length
    · have hdec : decide ((k : Int) < Q.length) = true := by simp; omega
      have hdec' : decide (k < Q.length) = true := by simp; omega
      have hkI : (k : Int) < Q.length := by omega
      obtain ⟨q, hq⟩ : ∃ q, Q[k]? = some q := ⟨_, List.getElem?_eq_getElem hlt⟩
      obtain ⟨b, o, P, cq, rfl, hc, hP⟩ := (h.ext hE).at_ hq
      have hft := flat_take hq
      have hfl2 := flat_le Q (k + 1)
      have lC := cell_lt hc
      rw [hft, List.length_append] at hfl2
      have Hft := Lib.hid hft
      clear hft hq
      generalize hz : (Q.take k).flatten = z at *
      have Hz := Lib.hid hz
      clear hz
      go_wp2_with (first | (at_builtin; refine wpList_append rfl Try.elN _ _ rfl w.heap.size _ _ _ rfl hown _ q.length _ (flatI q) rfl hP (one_flatI q) (by omega) (by omega) (by (first | omega | (simp; done) | (simp; omega))) ?_; intro A2 a2 w2 hown2 hg2 hat2))
      have hE2 : Ext w w2 := ext_grown hE hg2 hown (Nat.le_refl _)
      have hl2 : (z ++ q).length = z.length + q.length := by simp
      rw [← flatI_append] at hown2
      have Hl2 := Lib.hid hl2
      clear hl2
      go_wp2
      go_roundw
      case rel => exact ⟨k + 1, A2, a2, by omega, by go_num, by rw [Hft.out, Hl2.out], by rw [Hft.out, Hl2.out]; exact hown2, hE2⟩
      case measure => simp [intOf]; omega
    · have hdec : decide ((k : Int) < Q.length) = false := by simp; omega
      have hdec' : decide (k < Q.length) = false := by simp; omega
      have hke : k = Q.length := by omega
      rw [hke, List.take_length] at hown ⊢
      go_wp2
      go_ret
      exact ⟨D, d, rfl, hown, hE⟩

set_option maxRecDepth 100000 in
set_option maxHeartbeats 1000000 in
theorem sameL_any (A B : Option Addr) (a b : Nat) (l : List Inc) (w : World) (hA : Rd w A l.length 5 (flatI l)) (hB : Rd w B l.length 5 (flatI l)) (hn : l.length ≤ 100000) :
    Calls Try.prog 22 #[.slice A l.length a, .slice B l.length b] w fun r w' => r = .returned (.bool true) ∧ Ext w w' := by
  go_enter Try.func22, Try.ntmps22
  go_wp2
  go_loopw [13] (fun i wr => ∃ k : Nat, k ≤ l.length ∧ i = .int .i64 k ∧ Ext w wr) (fun i _ => l.length - (intOf i).toNat)
  case atStart => exact ⟨0, by omega, rfl, by (repeat (first | (with_reducible exact Ext.refl _) | assumption | (with_reducible refine Ext.alloc ?_ _) | (with_reducible refine Ext.drew ?_) | (with_reducible refine Ext.drewL ?_) | refine Ext.trans ?_ (by assumption)))⟩
  case round =>
    obtain ⟨k, hk, rfl, hE⟩ := hrel
    by_cases hlt : k < l.length
    · have hdec : decide ((k : Int) < l.length) = true := by simp; omega
      have hdec' : decide (k < l.length) = true := by simp; omega
      have hkI : (k : Int) < l.length := by omega
      obtain ⟨i, hi⟩ : ∃ i, l[k]? = some i := ⟨_, List.getElem?_eq_getElem hlt⟩
      obtain ⟨b1, o1, rfl, c0, c1, c2, c3, c4⟩ := inc_at (hA.ext hE) hi
      obtain ⟨b2, o2, rfl, e0, e1, e2, e3, e4⟩ := inc_at (hB.ext hE) hi
      have l1 := cell_lt c0
      have l2 := cell_lt e0
      clear hi
      go_upto_region 6 with fail
      refine wp_region_ext [(true, 0), (true, 1), (true, 2), (true, 3), (true, 4), (true, 5), (true, 6), (true, 7), (true, 8)] Try.mixed (by kernel_rfl) (by simp only [pick, List.filterMap_cons, List.filterMap_nil, List.getElem?_toArray, List.getElem?_cons_succ, List.getElem?_cons_zero, Option.map_some]; rfl) ?_
      intro hx
      repeat (first
        | (refine wpL_take hx (v := ?_) (by rfl) (fun _ hc => ?_) ?_
           rotate_left
           focus (go_simp; (try go_ints); exact rfl)
           simp only [Act.put, List.setIfInBounds_toArray, List.set_cons_zero, List.set_cons_succ])
        | (refine wpL_skip (by rfl) ?_; simp only [Act.put, List.setIfInBounds_toArray, List.set_cons_zero, List.set_cons_succ])
        | (refine wpL_call (by rfl) (fun K hK => ?_); go_simp; (first | (refine hK _ _ ?_ ?_; (focus ((repeat (first | (with_reducible exact Ext.refl _) | assumption | (with_reducible refine Ext.alloc ?_ _) | (with_reducible refine Ext.drew ?_) | (with_reducible refine Ext.drewL ?_) | refine Ext.trans ?_ (by assumption))); done))) | (refine hK undef _ ?_ ?_; (focus ((repeat (first | (with_reducible exact Ext.refl _) | assumption | (with_reducible refine Ext.alloc ?_ _) | (with_reducible refine Ext.drew ?_) | (with_reducible refine Ext.drewL ?_) | refine Ext.trans ?_ (by assumption))); done)))); clear hK; intro hr; replace hx := hx.trans hr; clear hr; try simp only [Act.put, List.setIfInBounds_toArray, List.set_cons_zero, List.set_cons_succ]))
      refine wpL_end ?_
      go_wp2
      go_roundw
      case rel => exact ⟨k + 1, by omega, by go_num, by (repeat (first | (with_reducible exact Ext.refl _) | assumption | (with_reducible refine Ext.alloc ?_ _) | (with_reducible refine Ext.drew ?_) | (with_reducible refine Ext.drewL ?_) | refine Ext.trans ?_ (by assumption)))⟩
      case measure => simp [intOf]; omega
    · have hdec : decide ((k : Int) < l.length) = false := by simp; omega
      have hdec' : decide (k < l.length) = false := by simp; omega
      go_wp2
      go_ret
      exact ⟨rfl, hE⟩
set_option maxRecDepth 100000 in
set_option maxHeartbeats 1000000 in
theorem slight_few (A : Option Addr) (c : Nat) (Q : List (List Inc)) (w : World) (h : BRd w A Q) (M : Nat) (hM : M ≤ 1000000000000000000) (hn : Q.length ≤ 8) (hl : ∀ q ∈ Q, q.length ≤ M) : Calls Try.prog 18 #[.slice A Q.length c] w fun r w' => r = .returned (.bool (decide (Q.flatten.length ≤ 40))) ∧ w = w' := by
  have d8 : decide ((Q.length : Int) ≤ 8) = true := by (first | omega | (simp; done) | (simp; omega))
  have d8' : decide (Q.length ≤ 8) = true := by (first | omega | (simp; done) | (simp; omega))
  have hsum : ∀ k, (Q.take k).flatten.length ≤ k * M := by
    intro k
    induction k with
    | zero => simp
    | succ k ih =>
      rw [Nat.succ_mul]
      cases hq : Q[k]? with
      | none =>
        have e : Q.take (k + 1) = Q.take k := by rw [List.take_add_one, hq]; simp
        rw [e]; omega
      | some q =>
        rw [flat_take hq, List.length_append]
        have := hl q (List.mem_of_getElem? hq)
        omega
  have hsum8 : ∀ k, k ≤ 8 → (Q.take k).flatten.length ≤ 8000000000000000000 := by
    intro k hk
    have h1 := hsum k
    have h2 : k * M ≤ 8 * M := Nat.mul_le_mul_right _ hk
    omega
  clear hsum
  have hsum := hsum8
  have Hs := Lib.hid hsum
  have Hl := Lib.hid hl
  clear hsum hl
  go_enter Try.func18, Try.ntmps18
  go_wp2
  go_loopw [3, 8] (fun s i wr => ∃ (k : Nat), k ≤ Q.length ∧ i = .int .i64 k ∧ s = .int .i64 ((Q.take k).flatten.length : Nat) ∧ wr = w) (fun _ i _ => Q.length - (intOf i).toNat)
  case atStart => exact ⟨0, by omega, rfl, rfl, rfl⟩
  case round =>
    obtain ⟨k, hk, rfl, rfl, rfl⟩ := hrel
    have hfl := Hs.out k (by omega)
    have hfl9 := hfl
    by_cases hlt : k < Q.length
    · have hdec : decide ((k : Int) < Q.length) = true := by simp; omega
      have hdec' : decide (k < Q.length) = true := by simp; omega
      have hkI : (k : Int) < Q.length := by omega
      obtain ⟨q, hq⟩ : ∃ q, Q[k]? = some q := ⟨_, List.getElem?_eq_getElem hlt⟩
      obtain ⟨b, o, P, cq, rfl, hc, hP⟩ := h.at_ hq
      have hft := flat_take hq
      have hfl2 := Hs.out (k + 1) (by omega)
      have lC := cell_lt hc
      rw [hft, List.length_append] at hfl2
      have hfl3 := hfl2
      have Hft := Lib.hid hft
      clear hft hq hfl hfl2 hsum8
      generalize hz : (Q.take k).flatten.length = z at *
      have Hz := Lib.hid hz
      clear hz
      go_wp2
      go_roundw
      case rel => exact ⟨k + 1, by omega, by go_num, by rw [Hft.out, List.length_append, Hz.out, Int.natCast_add], trivial⟩
      case measure => simp [intOf]; omega
    · have hdec : decide ((k : Int) < Q.length) = false := by simp; omega
      have hdec' : decide (k < Q.length) = false := by simp; omega
      have hke : k = Q.length := by omega
      rw [hke, List.take_length] at hfl9
      rw [hke, List.take_length]
      clear hdec hdec' hk hlt
      have hdec : decide ((Q.length : Int) < Q.length) = false := by simp
      have hdec' : decide (Q.length < Q.length) = false := by simp
      clear hfl hsum8
      obtain ⟨z, hz⟩ : ∃ z, Q.flatten.length = z := ⟨_, rfl⟩
      rw [hz] at hfl9 ⊢
      have Hz := Lib.hid hz
      clear hz hke
      by_cases h40 : z ≤ 40
      · have d1 : decide ((z : Int) ≤ 40) = true := by (first | omega | (simp; done) | (simp; omega))
        have d2 : decide (z ≤ 40) = true := by (first | omega | (simp; done) | (simp; omega))
        go_wp2
        go_ret
        exact ⟨ret_bool (by rw [Hz.out]; exact d2.symm), rfl⟩
      · have d1 : decide ((z : Int) ≤ 40) = false := by (first | omega | (simp; done) | (simp; omega))
        have d2 : decide (z ≤ 40) = false := by (first | omega | (simp; done) | (simp; omega))
        go_wp2
        go_ret
        exact ⟨ret_bool (by rw [Hz.out]; exact d2.symm), rfl⟩
set_option maxRecDepth 100000 in
set_option maxHeartbeats 1000000 in
theorem slight_many (A : Option Addr) (c : Nat) (Q : List (List Inc)) (w : World) (h : BRd w A Q) (hn : ¬ Q.length ≤ 8) (hn2 : Q.length ≤ 1000000000000000000) : Calls Try.prog 18 #[.slice A Q.length c] w fun r w' => r = .returned (.bool false) ∧ w = w' := by
  have d8 : decide ((Q.length : Int) ≤ 8) = false := by (first | omega | (simp; done) | (simp; omega))
  have d8' : decide (Q.length ≤ 8) = false := by (first | omega | (simp; done) | (simp; omega))
  go_enter Try.func18, Try.ntmps18
  go_wp2
  go_loopw [3, 8] (fun s i wr => ∃ (k : Nat) (z : Int), k ≤ Q.length ∧ i = .int .i64 k ∧ s = .int .i64 z ∧ wr = w) (fun _ i _ => Q.length - (intOf i).toNat)
  case atStart => exact ⟨0, 0, by omega, rfl, rfl, rfl⟩
  case round =>
    obtain ⟨k, z, hk, rfl, rfl, rfl⟩ := hrel
    by_cases hlt : k < Q.length
    · have hdec : decide ((k : Int) < Q.length) = true := by simp; omega
      have hdec' : decide (k < Q.length) = true := by simp; omega
      have hkI : (k : Int) < Q.length := by omega
      obtain ⟨q, hq⟩ : ∃ q, Q[k]? = some q := ⟨_, List.getElem?_eq_getElem hlt⟩
      obtain ⟨b, o, P, cq, rfl, hc, hP⟩ := h.at_ hq
      have lC := cell_lt hc
      clear hq
      go_wp2
      go_roundw
      case rel => exact ⟨k + 1, _, by omega, by go_num, rfl, trivial⟩
      case measure => simp [intOf]; omega
    · have hdec : decide ((k : Int) < Q.length) = false := by simp; omega
      have hdec' : decide (k < Q.length) = false := by simp; omega
      go_wp2
      go_ret
      exact ⟨rfl, rfl⟩
end Go.Proofs.Ytljkadpconghnaa
