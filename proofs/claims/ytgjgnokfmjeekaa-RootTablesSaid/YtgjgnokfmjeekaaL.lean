/- The walks of root.Live and its reference, SameInts. Conditions: the ranges that each theorem states. -/
import Derived.Test.YtgjgnokfmjeekaaK
import Derived.Test.YtgjgnokfmjeekaaH
namespace Go.Proofs.Ytgjgnokfmjeekaa
open Go.RowKit Go.Draw

def liveTo (us : List Bool) (k : Nat) : List Int := ((List.range k).filter (fun j => us.getD j false)).map (fun (j : Nat) => (j : Int) + 1)
theorem liveTo_yes (us : List Bool) (k : Nat) (h : us.getD k false = true) : liveTo us (k + 1) = liveTo us k ++ [(k : Int) + 1] := by
  simp only [liveTo, List.range_succ, List.filter_append, List.map_append]
  rw [List.filter_cons_of_pos (by exact h)]
  rfl
theorem liveTo_no (us : List Bool) (k : Nat) (h : us.getD k false = false) : liveTo us (k + 1) = liveTo us k := by
  simp only [liveTo, List.range_succ, List.filter_append, List.map_append]
  rw [List.filter_cons_of_neg (by rw [h]; simp)]
  simp
theorem liveTo_len (us : List Bool) (k : Nat) : (liveTo us k).length ≤ k := by
  have := List.length_filter_le (fun j => us.getD j false) (List.range k)
  simpa [liveTo] using this
def RetInts (w : World) (zs : List Int) (r : Ending) (w' : World) : Prop :=
  ∃ A c, r = .returned (.slice A zs.length c) ∧ w'.ownsRow w.heap.size 3 1 (.slice A zs.length c) zs.length (ints zs) ∧ Ext w w'

set_option maxHeartbeats 1000000 in
theorem live_any (A A' : Option Addr) (n m c c' : Nat) (us : List Bool) (w : World) (hu : Rd w A n 1 (bools us)) (hn : n ≤ 100000) :
    Calls Try.prog 21 #[.agg #[.slice A n c, .slice A' m c']] w fun r w' => RetInts w (liveTo us n) r w' := by
  have hul : us.length = n := by have := hu.1; simpa [bools] using this
  have Hul := Lib.hid hul
  clear hul
  go_enter Try.func21, Try.ntmps21
  go_wp2
  go_loopw [3, 9] (fun s i wr => ∃ (k : Nat) (B : Option Addr) (d : Nat), k ≤ n ∧ i = .int .i64 k ∧ s = .slice B (liveTo us k).length d ∧ wr.ownsRow w.heap.size 3 1 (.slice B (liveTo us k).length d) (liveTo us k).length (ints (liveTo us k)) ∧ Ext w wr) (fun _ i _ => n - (intOf i).toNat)
  case atStart => exact ⟨0, none, 0, by omega, rfl, rfl, own_nil _ _ _ _, by (repeat (first | (with_reducible exact Ext.refl _) | assumption | (with_reducible refine Ext.alloc ?_ _) | (with_reducible refine Ext.drew ?_) | (with_reducible refine Ext.drewL ?_) | refine Ext.trans ?_ (by assumption)))⟩
  case round =>
    obtain ⟨k, B, d, hk, rfl, rfl, hown, hE⟩ := hrel
    have hll := liveTo_len us k
    have hsz := hE.size_le
    by_cases hlt : k < n
    · have hdec : decide ((k : Int) < n) = true := by simp; omega
      have hdec' : decide (k < n) = true := by simp; omega
      obtain ⟨b, o, u, rfl, hku, hc⟩ := (hu.ext hE).at_ hlt
      obtain ⟨v, hv, rfl⟩ : ∃ v, us[k]? = some v ∧ u = .bool v := by
        simp only [bools, List.getElem?_map, Option.map_eq_some_iff] at hku
        obtain ⟨v, h1, h2⟩ := hku
        exact ⟨v, h1, h2.symm⟩
      have hgv : us.getD k false = v := by simp [List.getD_eq_getElem?_getD, hv]
      clear hku hv
      cases v with
      | true =>
        have hs := liveTo_yes us k hgv
        have Hs := Lib.hid hs
        have Hh := Lib.hid hgv
        clear hs hgv
        generalize hzl : liveTo us k = zl at *
        have Hzl := Lib.hid hzl
        clear hzl
        go_wp2_with (first | (at_builtin; refine wpList_append rfl Try.el22 _ _ rfl w.heap.size _ _ _ rfl (own_alloc hown _) _ 1 1 _ rfl (rd_one _ _ _) (by simp [Value.oneCell']) (by omega) (by omega) (by (first | omega | (simp; done) | (simp; omega))) ?_; intro A2 c2 w2 hown2 hg2 hat2))
        have hE2 : Ext w w2 := ext_grown (by (repeat (first | (with_reducible exact Ext.refl _) | assumption | (with_reducible refine Ext.alloc ?_ _) | (with_reducible refine Ext.drew ?_) | (with_reducible refine Ext.drewL ?_) | refine Ext.trans ?_ (by assumption)))) hg2 (own_alloc hown _) (Nat.le_refl _)
        have hl2 : (zl ++ [(k : Int) + 1]).length = zl.length + 1 := by simp
        have hi2 : ints zl ++ [.int .i64 ((k : Int) + 1)] = ints (zl ++ [(k : Int) + 1]) := by simp [ints]
        rw [hi2] at hown2
        clear hi2
        have Hl2 := Lib.hid hl2
        clear hl2
        go_wp2
        go_roundw
        case rel => exact ⟨k + 1, A2, c2, by omega, by go_num, by rw [Hs.out, Hl2.out], by rw [Hs.out, Hl2.out]; exact hown2, hE2⟩
        case measure => simp [intOf]; omega
      | false =>
        have hs := liveTo_no us k hgv
        have Hs := Lib.hid hs
        clear hs hgv
        go_wp2
        go_roundw
        case rel => exact ⟨k + 1, B, d, by omega, by go_num, by rw [Hs.out], by rw [Hs.out]; exact hown, hE⟩
        case measure => simp [intOf]; omega
    · have hdec : decide ((k : Int) < n) = false := by simp; omega
      have hdec' : decide (k < n) = false := by simp; omega
      obtain rfl : k = n := by omega
      go_wp2
      go_ret
      exact ⟨B, d, rfl, hown, hE⟩

set_option maxHeartbeats 1000000 in
theorem rlive_any (A A' : Option Addr) (n m c c' : Nat) (us : List Bool) (w : World) (hu : Rd w A n 1 (bools us)) (hn : n ≤ 100000) :
    Calls Try.prog 22 #[.agg #[.slice A n c, .slice A' m c']] w fun r w' => RetInts w (liveTo us n) r w' := by
  have hul : us.length = n := by have := hu.1; simpa [bools] using this
  have Hul := Lib.hid hul
  clear hul
  go_enter Try.func22, Try.ntmps22
  go_wp2
  go_loopw [3, 9] (fun s i wr => ∃ (k : Nat) (B : Option Addr) (d : Nat), k ≤ n ∧ i = .int .i64 k ∧ s = .slice B (liveTo us k).length d ∧ wr.ownsRow w.heap.size 3 1 (.slice B (liveTo us k).length d) (liveTo us k).length (ints (liveTo us k)) ∧ Ext w wr) (fun _ i _ => n - (intOf i).toNat)
  case atStart => exact ⟨0, none, 0, by omega, rfl, rfl, own_nil _ _ _ _, by (repeat (first | (with_reducible exact Ext.refl _) | assumption | (with_reducible refine Ext.alloc ?_ _) | (with_reducible refine Ext.drew ?_) | (with_reducible refine Ext.drewL ?_) | refine Ext.trans ?_ (by assumption)))⟩
  case round =>
    obtain ⟨k, B, d, hk, rfl, rfl, hown, hE⟩ := hrel
    have hll := liveTo_len us k
    have hsz := hE.size_le
    by_cases hlt : k < n
    · have hdec : decide ((k : Int) < n) = true := by simp; omega
      have hdec' : decide (k < n) = true := by simp; omega
      obtain ⟨b, o, u, rfl, hku, hc⟩ := (hu.ext hE).at_ hlt
      obtain ⟨v, hv, rfl⟩ : ∃ v, us[k]? = some v ∧ u = .bool v := by
        simp only [bools, List.getElem?_map, Option.map_eq_some_iff] at hku
        obtain ⟨v, h1, h2⟩ := hku
        exact ⟨v, h1, h2.symm⟩
      have hgv : us.getD k false = v := by simp [List.getD_eq_getElem?_getD, hv]
      clear hku hv
      cases v with
      | true =>
        have hs := liveTo_yes us k hgv
        have Hs := Lib.hid hs
        have Hh := Lib.hid hgv
        clear hs hgv
        generalize hzl : liveTo us k = zl at *
        have Hzl := Lib.hid hzl
        clear hzl
        go_wp2_with (first | (at_builtin; refine wpList_append rfl Try.el22 _ _ rfl w.heap.size _ _ _ rfl (own_alloc hown _) _ 1 1 _ rfl (rd_one _ _ _) (by simp [Value.oneCell']) (by omega) (by omega) (by (first | omega | (simp; done) | (simp; omega))) ?_; intro A2 c2 w2 hown2 hg2 hat2))
        have hE2 : Ext w w2 := ext_grown (by (repeat (first | (with_reducible exact Ext.refl _) | assumption | (with_reducible refine Ext.alloc ?_ _) | (with_reducible refine Ext.drew ?_) | (with_reducible refine Ext.drewL ?_) | refine Ext.trans ?_ (by assumption)))) hg2 (own_alloc hown _) (Nat.le_refl _)
        have hl2 : (zl ++ [(k : Int) + 1]).length = zl.length + 1 := by simp
        have hi2 : ints zl ++ [.int .i64 ((k : Int) + 1)] = ints (zl ++ [(k : Int) + 1]) := by simp [ints]
        rw [hi2] at hown2
        clear hi2
        have Hl2 := Lib.hid hl2
        clear hl2
        go_wp2
        go_roundw
        case rel => exact ⟨k + 1, A2, c2, by omega, by go_num, by rw [Hs.out, Hl2.out], by rw [Hs.out, Hl2.out]; exact hown2, hE2⟩
        case measure => simp [intOf]; omega
      | false =>
        have hs := liveTo_no us k hgv
        have Hs := Lib.hid hs
        clear hs hgv
        go_wp2
        go_roundw
        case rel => exact ⟨k + 1, B, d, by omega, by go_num, by rw [Hs.out], by rw [Hs.out]; exact hown, hE⟩
        case measure => simp [intOf]; omega
    · have hdec : decide ((k : Int) < n) = false := by simp; omega
      have hdec' : decide (k < n) = false := by simp; omega
      obtain rfl : k = n := by omega
      go_wp2
      go_ret
      exact ⟨B, d, rfl, hown, hE⟩

end Go.Proofs.Ytgjgnokfmjeekaa
