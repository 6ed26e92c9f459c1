/- The walks of arena.Fill and of the references of Copy and Fill. Conditions: the ranges that each theorem states. -/
import Derived.Test.YtodoeckikkeacaaC
namespace Go.Proofs.Ytodoeckikkeacaa
open Go.RowKit Go.Draw

/-- n words set to one value, or an error -/
def fillA (rs : List Int) (a k v : Int) : List Int × Int :=
  if k < 0 then ([], 1) else if 0 ≤ a ∧ a ≤ rs.length ∧ k ≤ rs.length - a then (sets rs a.toNat (List.replicate k.toNat v), 0) else ([], 2)
theorem sets_more {rs : List Int} {a j : Nat} {v : Int} : (sets (words rs) a (words (List.replicate j v))).set (a + j) (.int .u64 v) = sets (words rs) a (words (List.replicate (j + 1) v)) := by
  have := sets_snoc (Value.int .u64 v) (words (List.replicate j v)) (words rs) a
  rw [show (words (List.replicate j v)).length = j by simp [words]] at this
  rw [← this, List.replicate_succ']
  simp [words]

set_option maxHeartbeats 1000000 in
theorem fill_any (A : Option Addr) (n c : Nat) (rs : List Int) (a k v : Int) (w : World) (hr : Rd w A n 1 (words rs)) (hn : n ≤ 1000000) (hcp : n ≤ c) :
    Calls Try.prog 11 #[.slice A n c, .int .i64 a, .int .i64 k, .int .u64 v] w fun r w' => RetW w (fillA rs a k v).1 (fillA rs a k v).2 r w' := by
  have hl : rs.length = n := by have := hr.1; simpa [words] using this
  by_cases h0 : k < 0
  · have h1 : decide (k < 0) = true := by simpa using h0
    rw [show fillA rs a k v = ([], 1) by unfold fillA; rw [if_pos h0]]
    clear h0 hl hr
    go_enter_defers Try.func11, Try.ntmps11
    go_wp2
    refine ⟨.tuple #[.slice none 0 0, .int .i64 1], by simp [results, Try.results11, go_sem], RetW.none_ rfl (Ext.alloc (Ext.refl _) _)⟩
  · have h1 : decide (k < 0) = false := by simpa using h0
    by_cases hia : 0 ≤ a ∧ a ≤ n ∧ k ≤ n - a
    · rw [show fillA rs a k v = (sets rs a.toNat (List.replicate k.toNat v), 0) by unfold fillA; rw [if_neg h0, if_pos (by rw [hl]; exact hia)]]
      obtain ⟨k, rfl⟩ : ∃ j : Nat, k = (j : Int) := ⟨k.toNat, by omega⟩
      obtain ⟨a, rfl⟩ : ∃ j : Nat, a = (j : Int) := ⟨a.toNat, by omega⟩
      simp only [Int.toNat_natCast]
      have hak : a + k ≤ n := by omega
      have Hl := Lib.hid hl
      clear h0 hia hl
      go_enter_defers Try.func11, Try.ntmps11
      go_wp2_with (first | (go_at_call 22; refine (span_in A n c a k (words rs) _ (hr.ext (by (repeat (first | (with_reducible exact Ext.refl _) | assumption | (with_reducible refine Ext.alloc ?_ _) | (with_reducible refine Ext.drew ?_) | (with_reducible refine Ext.drewL ?_) | refine Ext.trans ?_ (by assumption))))) hak hn hcp).mono ?_; rintro e w1 ⟨⟨A2, rfl, _⟩, rfl⟩) | (go_at_call 23; refine (words_any A n c rs _ (hr.ext (by (repeat (first | (with_reducible exact Ext.refl _) | assumption | (with_reducible refine Ext.alloc ?_ _) | (with_reducible refine Ext.drew ?_) | (with_reducible refine Ext.drewL ?_) | refine Ext.trans ?_ (by assumption))))) hn).mono ?_; rintro e w1 ⟨B, d, rfl, hB, hE⟩; have k5 := blk_of_ext hE; have hzW := hE.size_le))
      go_loopw [11] (fun i wr => ∃ p : Nat, p ≤ k ∧ i = .int .i64 (a + p : Nat) ∧ wr.ownsRow (w.alloc (.cells #[.int .i64 0] 28)).heap.size 23 1 (.slice B n d) n (sets (words rs) a (words (List.replicate p v))) ∧ RowKit.Below (w.alloc (.cells #[.int .i64 0] 28)).heap.size w1 wr) (fun i _ => a + k - (intOf i).toNat)
      case atStart => exact ⟨0, by omega, rfl, by simpa [sets, words] using hB, RowKit.Below.refl _ _⟩
      case round =>
        obtain ⟨p, hp, rfl, hO, hBl⟩ := hrel
        by_cases hlt : p < k
        · have hdec : decide (((a + p : Nat) : Int) < (a : Int) + k) = true := by simp; omega
          have hpi : ((a + p : Nat) : Int) < n := by omega
          obtain ⟨g, rfl, hg1, hg2⟩ := own_form hO (by omega)
          obtain ⟨hcg, hfg⟩ := own_cells hO
          have hq := hcg (a + p) _ (List.getElem?_eq_getElem (by rw [sets_length]; simp [words, Hl.out]; omega))
          generalize (sets (words rs) a (words (List.replicate p v)))[a + p]'(by rw [sets_length]; simp [words, Hl.out]; omega) = u at hq
          have hfq := hfg (a + p)
          have hO' := own_set hO (a + p) (.int .u64 v)
          rw [sets_more] at hO'
          clear hcg hfg
          generalize hap : a + p = ap at *
          have Hap := Lib.hid hap
          clear hap
          go_wp2
          go_roundw
          case rel => exact ⟨p + 1, by omega, by have := Hap.out; go_num, hO', RowKit.Below.setCell hBl hg1 _⟩
          case measure => have := Hap.out; simp [intOf]; omega
        · have hdec : decide (((a + p : Nat) : Int) < (a : Int) + k) = false := by simp; omega
          obtain rfl : p = k := by omega
          have k5 := k5.below hBl (by simp)
          have c5 := k5.cell
          have f5 := k5.froz
          have b5 := k5.lt
          go_wp2
          refine leave_ok (.tuple #[.slice B n d, .int .i64 0]) (by simp [results, Try.results11, go_sem, *]) ?_
          have e1 : (sets rs a (List.replicate p v)).length = n := by rw [sets_length, Hl.out]
          refine ⟨B, d, by rw [e1], ?_, ?_⟩
          · rw [e1, words_sets]
            exact own_base (own_below hO (by simp) _) (by simp)
          · exact Ext.setCell (ext_below (Ext.trans (Ext.alloc (Ext.refl _) _) hE) hBl (by simp)) (Nat.le_refl _) _
    · rw [show fillA rs a k v = ([], 2) by unfold fillA; rw [if_neg h0, if_neg (by rw [hl]; exact hia)]]
      clear h0 hl hr
      go_enter_defers Try.func11, Try.ntmps11
      go_wp2_with (first | (go_at_call 22; refine (span_out A n c a k _ (by omega) hn).mono ?_; rintro e w1 ⟨ho, rfl⟩; obtain rfl := ho))
      exact leave_out (x := 0) (by simp) (by simp) (.tuple #[.slice none 0 0, .int .i64 2]) (fun o => by simp [results, Try.results11, go_sem]) (fun o => RetW.none_ rfl (Ext.alloc (Ext.setCell (Ext.alloc (Ext.refl _) _) (by simp) _) _))

theorem outside_is {A : Option Addr} {n c : Nat} {a k : Int} (w : World) (b : Bool) (hn : n ≤ 1000000) (h : decide (0 ≤ a ∧ a ≤ n ∧ k ≤ n - a) = b) :
    Calls Try.prog 24 #[.slice A n c, .int .i64 a, .int .i64 k] w fun e w' => e = .returned (.bool (!b)) ∧ w = w' := by
  rw [← h]; exact outside_any A n c a k w hn
set_option maxHeartbeats 1000000 in
theorem rfill_any (A : Option Addr) (n c : Nat) (rs : List Int) (a k v : Int) (w : World) (hr : Rd w A n 1 (words rs)) (hn : n ≤ 1000000) :
    Calls Try.prog 12 #[.slice A n c, .int .i64 a, .int .i64 k, .int .u64 v] w fun r w' => RetW w (fillA rs a k v).1 (fillA rs a k v).2 r w' := by
  have hl : rs.length = n := by have := hr.1; simpa [words] using this
  by_cases h0 : k < 0
  · have h1 : decide (k < 0) = true := by simpa using h0
    rw [show fillA rs a k v = ([], 1) by unfold fillA; rw [if_pos h0]]
    clear h0 hl hr
    go_enter Try.func12, Try.ntmps12
    go_wp2
    go_ret2
    exact RetW.none_ rfl (Ext.refl _)
  · have h1 : decide (k < 0) = false := by simpa using h0
    by_cases hia : 0 ≤ a ∧ a ≤ n ∧ k ≤ n - a
    · rw [show fillA rs a k v = (sets rs a.toNat (List.replicate k.toNat v), 0) by unfold fillA; rw [if_neg h0, if_pos (by rw [hl]; exact hia)]]
      have Ho := Lib.hid (show decide (0 ≤ a ∧ a ≤ (n : Int) ∧ k ≤ n - a) = true by simpa using hia)
      obtain ⟨k, rfl⟩ : ∃ j : Nat, k = (j : Int) := ⟨k.toNat, by omega⟩
      obtain ⟨a, rfl⟩ : ∃ j : Nat, a = (j : Int) := ⟨a.toNat, by omega⟩
      simp only [Int.toNat_natCast]
      have hak : a + k ≤ n := by omega
      have Hl := Lib.hid hl
      clear h0 hia hl
      go_enter Try.func12, Try.ntmps12
      go_wp2_with (first | (go_at_call 24; refine (outside_is _ true hn Ho.out).mono ?_; rintro e w1 ⟨rfl, rfl⟩) | (go_at_call 14; refine (clone_any A n c rs _ (hr.ext (by (repeat (first | (with_reducible exact Ext.refl _) | assumption | (with_reducible refine Ext.alloc ?_ _) | (with_reducible refine Ext.drew ?_) | (with_reducible refine Ext.drewL ?_) | refine Ext.trans ?_ (by assumption))))) hn).mono ?_; rintro e w1 ⟨B, d, rfl, hB, hE⟩; have hzW := hE.size_le))
      go_loopw [11] (fun i wr => ∃ p : Nat, p ≤ k ∧ i = .int .i64 p ∧ wr.ownsRow w.heap.size 23 1 (.slice B n d) n (sets (words rs) a (words (List.replicate p v))) ∧ RowKit.Below w.heap.size w1 wr) (fun i _ => k - (intOf i).toNat)
      case atStart => exact ⟨0, by omega, rfl, by simpa [sets, words] using hB, RowKit.Below.refl _ _⟩
      case round =>
        obtain ⟨p, hp, rfl, hO, hBl⟩ := hrel
        by_cases hlt : p < k
        · have hdec : decide ((p : Int) < k) = true := by simp; omega
          have hdec' : decide (p < k) = true := by simp; omega
          have hpi : (a : Int) + p < n := by omega
          obtain ⟨g, rfl, hg1, hg2⟩ := own_form hO (by omega)
          obtain ⟨hcg, hfg⟩ := own_cells hO
          have hq := hcg (a + p) _ (List.getElem?_eq_getElem (by rw [sets_length]; simp [words, Hl.out]; omega))
          generalize (sets (words rs) a (words (List.replicate p v)))[a + p]'(by rw [sets_length]; simp [words, Hl.out]; omega) = u at hq
          have hfq := hfg (a + p)
          have hO' := own_set hO (a + p) (.int .u64 v)
          rw [sets_more] at hO'
          have en : ((a : Int) + p).toNat = a + p := by omega
          clear hcg hfg
          go_wp2
          go_roundw
          case rel => exact ⟨p + 1, by omega, by go_num, hO', RowKit.Below.setCell hBl hg1 _⟩
          case measure => simp [intOf]; omega
        · have hdec : decide ((p : Int) < k) = false := by simp; omega
          have hdec' : decide (p < k) = false := by simp; omega
          obtain rfl : p = k := by omega
          go_wp2
          go_ret2
          have e1 : (sets rs a (List.replicate p v)).length = n := by rw [sets_length, Hl.out]
          refine ⟨B, d, by rw [e1]; rfl, ?_, ?_⟩
          · rw [e1, words_sets]
            exact hO
          · exact ext_below hE hBl (Nat.le_refl _)
    · rw [show fillA rs a k v = ([], 2) by unfold fillA; rw [if_neg h0, if_neg (by rw [hl]; exact hia)]]
      have Ho := Lib.hid (show decide (0 ≤ a ∧ a ≤ (n : Int) ∧ k ≤ n - a) = false by simpa using hia)
      clear h0 hl hr hia
      go_enter Try.func12, Try.ntmps12
      go_wp2_with (first | (go_at_call 24; refine (outside_is _ false hn Ho.out).mono ?_; rintro e w1 ⟨rfl, rfl⟩))
      go_ret2
      exact RetW.none_ rfl (Ext.refl _)
end Go.Proofs.Ytodoeckikkeacaa
