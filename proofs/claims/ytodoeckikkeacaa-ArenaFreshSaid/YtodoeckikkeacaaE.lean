/- The walks of the reference of Copy, of Same, of Mod, of awake. Conditions: the ranges that each theorem states. -/
import Derived.Test.YtodoeckikkeacaaD
namespace Go.Proofs.Ytodoeckikkeacaa
open Go.RowKit Go.Draw

theorem copy_more {xs : List Value} {a b p : Nat} {u : Value} (h : xs[a + p]? = some u) : (sets xs b ((xs.drop a).take p)).set (b + p) u = sets xs b ((xs.drop a).take (p + 1)) := by
  have hl : a + p < xs.length := (List.getElem?_eq_some_iff.1 h).1
  have := sets_snoc u ((xs.drop a).take p) xs b
  rw [show ((xs.drop a).take p).length = p by simp; omega] at this
  rw [← this]
  congr 1
  rw [List.take_add_one, List.getElem?_drop, h]
  rfl

set_option maxHeartbeats 1000000 in
theorem rcopy_any (A : Option Addr) (n c : Nat) (rs : List Int) (a b k : Int) (w : World) (hr : Rd w A n 1 (words rs)) (hn : n ≤ 1000000) :
    Calls Try.prog 10 #[.slice A n c, .int .i64 a, .int .i64 b, .int .i64 k] w fun r w' => RetW w (copyA rs a b k).1 (copyA rs a b k).2 r w' := by
  have hl : rs.length = n := by have := hr.1; simpa [words] using this
  by_cases h0 : k < 0
  · have h1 : decide (k < 0) = true := by simpa using h0
    rw [show copyA rs a b k = ([], 1) by unfold copyA; rw [if_pos h0]]
    clear h0 hl hr
    go_enter Try.func10, Try.ntmps10
    go_wp2
    go_ret2
    exact RetW.none_ rfl (Ext.refl _)
  · have h1 : decide (k < 0) = false := by simpa using h0
    by_cases hia : 0 ≤ a ∧ a ≤ n ∧ k ≤ n - a
    · have Ha := Lib.hid (show decide (0 ≤ a ∧ a ≤ (n : Int) ∧ k ≤ n - a) = true by simpa using hia)
      by_cases hib : 0 ≤ b ∧ b ≤ n ∧ k ≤ n - b
      · have Hb := Lib.hid (show decide (0 ≤ b ∧ b ≤ (n : Int) ∧ k ≤ n - b) = true by simpa using hib)
        rw [show copyA rs a b k = (sets rs b.toNat ((rs.drop a.toNat).take k.toNat), 0) by unfold copyA; rw [if_neg h0, if_pos (by rw [hl]; exact ⟨hia, hib⟩)]]
        obtain ⟨k, rfl⟩ : ∃ j : Nat, k = (j : Int) := ⟨k.toNat, by omega⟩
        obtain ⟨a, rfl⟩ : ∃ j : Nat, a = (j : Int) := ⟨a.toNat, by omega⟩
        obtain ⟨b, rfl⟩ : ∃ j : Nat, b = (j : Int) := ⟨b.toNat, by omega⟩
        simp only [Int.toNat_natCast]
        have hak : a + k ≤ n := by omega
        have hbk : b + k ≤ n := by omega
        have Hl := Lib.hid hl
        clear h0 hia hib hl
        go_enter Try.func10, Try.ntmps10
        go_wp2_with fail
        go_at_call 24
        refine (outside_is (a := (a : Int)) _ true hn Ha.out).mono ?_
        rintro e w1 ⟨rfl, rfl⟩
        go_wp2_with (first | (go_at_call 24; refine (outside_is (a := b) _ true hn Hb.out).mono ?_; rintro e w1 ⟨rfl, rfl⟩) | (go_at_call 14; refine (clone_any A n c rs _ (hr.ext (by (repeat (first | (with_reducible exact Ext.refl _) | assumption | (with_reducible refine Ext.alloc ?_ _) | (with_reducible refine Ext.drew ?_) | (with_reducible refine Ext.drewL ?_) | refine Ext.trans ?_ (by assumption))))) hn).mono ?_; rintro e w1 ⟨B, d, rfl, hB, hE⟩; have hzW := hE.size_le))
        go_loopw [11] (fun i wr => ∃ p : Nat, p ≤ k ∧ i = .int .i64 p ∧ wr.ownsRow w.heap.size 23 1 (.slice B n d) n (sets (words rs) b (((words rs).drop a).take p)) ∧ RowKit.Below w.heap.size w1 wr) (fun i _ => k - (intOf i).toNat)
        case atStart => exact ⟨0, by omega, rfl, by simpa [sets] using hB, RowKit.Below.refl _ _⟩
        case round =>
          obtain ⟨p, hp, rfl, hO, hBl⟩ := hrel
          by_cases hlt : p < k
          · have hdec : decide ((p : Int) < k) = true := by simp; omega
            have hdec' : decide (p < k) = true := by simp; omega
            have hpi : (b : Int) + p < n := by omega
            have hpa : (a : Int) + p < n := by omega
            obtain ⟨g, rfl, hg1, hg2⟩ := own_form hO (by omega)
            obtain ⟨b0, o0, x, rfl, hax, hcx⟩ := (hr.ext (ext_below hE hBl (Nat.le_refl _))).at_ (show a + p < n by omega)
            have hbx := cell_lt hcx
            obtain ⟨hcg, hfg⟩ := own_cells hO
            have hq := hcg (b + p) _ (List.getElem?_eq_getElem (by rw [sets_length]; simp [words, Hl.out]; omega))
            generalize (sets (words rs) b (((words rs).drop a).take p))[b + p]'(by rw [sets_length]; simp [words, Hl.out]; omega) = u at hq
            have hfq := hfg (b + p)
            have hO' := own_set hO (b + p) x
            rw [copy_more hax] at hO'
            have en : ((a : Int) + p).toNat = a + p := by omega
            have en' : ((b : Int) + p).toNat = b + p := by omega
            simp only [words, List.getElem?_map, Option.map_eq_some_iff] at hax
            obtain ⟨x, _, rfl⟩ := hax
            clear hcg hfg hr
            go_wp2
            go_roundw
            case rel => exact ⟨p + 1, by omega, by go_num, hO', RowKit.Below.setCell hBl hg1 _⟩
            case measure => simp [intOf]; omega
          · have hdec : decide ((p : Int) < k) = false := by simp; omega
            have hdec' : decide (p < k) = false := by simp; omega
            obtain rfl : p = k := by omega
            go_wp2
            go_ret2
            have e1 : (sets rs b ((rs.drop a).take p)).length = n := by rw [sets_length, Hl.out]
            refine ⟨B, d, by rw [e1]; rfl, ?_, ?_⟩
            · rw [e1, words_sets]
              have e2 : words ((rs.drop a).take p) = ((words rs).drop a).take p := by simp [words]
              rw [e2]
              exact hO
            · exact ext_below hE hBl (Nat.le_refl _)
      · have Hb := Lib.hid (show decide (0 ≤ b ∧ b ≤ (n : Int) ∧ k ≤ n - b) = false by simpa using hib)
        rw [show copyA rs a b k = ([], 2) by unfold copyA; rw [if_neg h0, if_neg (by rw [hl]; exact fun h => hib h.2)]]
        clear h0 hia hl hib hr
        go_enter Try.func10, Try.ntmps10
        go_wp2_with fail
        go_at_call 24
        refine (outside_is (a := (a : Int)) _ true hn Ha.out).mono ?_
        rintro e w1 ⟨rfl, rfl⟩
        go_wp2_with (first | (go_at_call 24; refine (outside_is (a := b) _ false hn Hb.out).mono ?_; rintro e w1 ⟨rfl, rfl⟩))
        go_ret2
        exact RetW.none_ rfl (Ext.refl _)
    · rw [show copyA rs a b k = ([], 2) by unfold copyA; rw [if_neg h0, if_neg (by rw [hl]; exact fun h => hia h.1)]]
      have Ho := Lib.hid (show decide (0 ≤ a ∧ a ≤ (n : Int) ∧ k ≤ n - a) = false by simpa using hia)
      clear h0 hl hr hia
      go_enter Try.func10, Try.ntmps10
      go_wp2_with (first | (go_at_call 24; refine (outside_is (a := a) _ false hn Ho.out).mono ?_; rintro e w1 ⟨rfl, rfl⟩))
      go_ret2
      exact RetW.none_ rfl (Ext.refl _)

theorem eq_of_get {α : Type} {xs ys : List α} (hl : xs.length = ys.length) (h : ∀ j, j < xs.length → xs[j]? = ys[j]?) : xs = ys := by
  apply List.ext_getElem? 
  intro j
  by_cases hj : j < xs.length
  · exact h j hj
  · rw [List.getElem?_eq_none (by omega), List.getElem?_eq_none (by omega)]

set_option maxHeartbeats 1000000 in
theorem same_any (A B : Option Addr) (n m c d : Nat) (xs ys : List Int) (w : World) (hx : Rd w A n 1 (words xs)) (hy : Rd w B m 1 (words ys)) (hn : n ≤ 1000000) (hm : m ≤ 1000000) :
    Calls Try.prog 13 #[.slice A n c, .slice B m d] w fun r w' => r = .returned (.bool (decide (xs = ys))) ∧ Ext w w' := by
  have hxl : xs.length = n := by have := hx.1; simpa [words] using this
  have hyl : ys.length = m := by have := hy.1; simpa [words] using this
  by_cases hnm : n = m
  · subst hnm
    have Hxl := Lib.hid hxl
    have Hyl := Lib.hid hyl
    clear hxl hyl
    go_enter Try.func13, Try.ntmps13
    go_wp2
    go_loopw [13] (fun i wr => ∃ k : Nat, k ≤ n ∧ i = .int .i64 k ∧ Ext w wr ∧ ∀ j, j < k → xs[j]? = ys[j]?) (fun i _ => n - (intOf i).toNat)
    case atStart => exact ⟨0, by omega, rfl, by (repeat (first | (with_reducible exact Ext.refl _) | assumption | (with_reducible refine Ext.alloc ?_ _) | (with_reducible refine Ext.drew ?_) | (with_reducible refine Ext.drewL ?_) | refine Ext.trans ?_ (by assumption))), fun j hj => by omega⟩
    case round =>
      obtain ⟨k, hk, rfl, hE, hd⟩ := hrel
      have Hd := Lib.hid hd
      clear hd
      by_cases hlt : k < n
      · have hdec : decide ((k : Int) < n) = true := by simp; omega
        have hdec' : decide (k < n) = true := by simp; omega
        have hkb : (k : Int) < n := by omega
        obtain ⟨b, o, u, rfl, hku, hc⟩ := (hx.ext hE).at_ hlt
        obtain ⟨b', o', u', rfl, hku', hc'⟩ := (hy.ext hE).at_ hlt
        simp only [words, List.getElem?_map, Option.map_eq_some_iff] at hku hku'
        obtain ⟨x, hx1, rfl⟩ := hku
        obtain ⟨y, hy1, rfl⟩ := hku'
        have Hx1 := Lib.hid hx1
        have Hy1 := Lib.hid hy1
        clear hx1 hy1
        by_cases hxy : x = y
        · subst hxy
          go_wp2
          refine wp_region_ext [(true, 0), (true, 1), (true, 2), (true, 3), (true, 4), (true, 5), (true, 6), (true, 7), (true, 8)] Try.mixed (by kernel_rfl) (by simp only [pick, List.filterMap_cons, List.filterMap_nil, List.getElem?_toArray, List.getElem?_cons_succ, List.getElem?_cons_zero, Option.map_some]; rfl) ?_
          intro hx
          repeat (first
            | (refine wpL_take hx (v := ?_) (by rfl) (fun _ hc => ?_) ?_
               rotate_left
               focus (go_simp; (try go_ints); exact rfl)
               simp only [Act.put, List.setIfInBounds_toArray, List.set_cons_zero, List.set_cons_succ])
            | (refine wpL_skip (by rfl) ?_; simp only [Act.put, List.setIfInBounds_toArray, List.set_cons_zero, List.set_cons_succ])
            | (refine wpL_call (by rfl) (fun K hK => ?_); go_simp; (first | (refine hK _ _ ?_ ?_; (focus ((repeat (first | (with_reducible exact Ext.refl _) | assumption | (with_reducible refine Ext.alloc ?_ _) | (with_reducible refine Ext.drew ?_) | (with_reducible refine Ext.drewL ?_) | refine Ext.trans ?_ (by assumption))); done))) | (refine hK undef _ ?_ ?_; (focus ((repeat (first | (with_reducible exact Ext.refl _) | assumption | (with_reducible refine Ext.alloc ?_ _) | (with_reducible refine Ext.drew ?_) | (with_reducible refine Ext.drewL ?_) | refine Ext.trans ?_ (by assumption))); done)))); clear hK; intro hr; replace hx := hx.trans hr; clear hr; try simp only [Act.put, List.setIfInBounds_toArray, List.set_cons_zero, List.set_cons_succ]))
          refine wpL_end ?_
          go_wp2
          go_roundw
          case rel => exact ⟨k + 1, by omega, by go_num, by (repeat (first | (with_reducible exact Ext.refl _) | assumption | (with_reducible refine Ext.alloc ?_ _) | (with_reducible refine Ext.drew ?_) | (with_reducible refine Ext.drewL ?_) | refine Ext.trans ?_ (by assumption))), fun j hj => by
            by_cases e : j = k
            · subst e; rw [Hx1.out, Hy1.out]
            · exact Hd.out j (by omega)⟩
          case measure => simp [intOf]; omega
        · have b1 : (x != y) = true := by simpa using hxy
          have hne : xs ≠ ys := by
            intro e
            subst e
            have h1 := Hx1.out
            rw [Hy1.out] at h1
            injection h1 with h1
            exact hxy h1.symm
          have Hne := Lib.hid hne
          clear hxy hne
          go_wp2
          refine wp_region_ext [(true, 0), (true, 1), (true, 2), (true, 3), (true, 4), (true, 5), (true, 6), (true, 7), (true, 8)] Try.mixed (by kernel_rfl) (by simp only [pick, List.filterMap_cons, List.filterMap_nil, List.getElem?_toArray, List.getElem?_cons_succ, List.getElem?_cons_zero, Option.map_some]; rfl) ?_
          intro hx
          repeat (first
            | (refine wpL_take hx (v := ?_) (by rfl) (fun _ hc => ?_) ?_
               rotate_left
               focus (go_simp; (try go_ints); exact rfl)
               simp only [Act.put, List.setIfInBounds_toArray, List.set_cons_zero, List.set_cons_succ])
            | (refine wpL_skip (by rfl) ?_; simp only [Act.put, List.setIfInBounds_toArray, List.set_cons_zero, List.set_cons_succ])
            | (refine wpL_call (by rfl) (fun K hK => ?_); go_simp; (first | (refine hK _ _ ?_ ?_; (focus ((repeat (first | (with_reducible exact Ext.refl _) | assumption | (with_reducible refine Ext.alloc ?_ _) | (with_reducible refine Ext.drew ?_) | (with_reducible refine Ext.drewL ?_) | refine Ext.trans ?_ (by assumption))); done))) | (refine hK undef _ ?_ ?_; (focus ((repeat (first | (with_reducible exact Ext.refl _) | assumption | (with_reducible refine Ext.alloc ?_ _) | (with_reducible refine Ext.drew ?_) | (with_reducible refine Ext.drewL ?_) | refine Ext.trans ?_ (by assumption))); done)))); clear hK; intro hr; replace hx := hx.trans hr; clear hr; try simp only [Act.put, List.setIfInBounds_toArray, List.set_cons_zero, List.set_cons_succ]))
          refine wpL_end ?_
          go_wp2
          go_ret
          exact ⟨ret_bool (by simpa using Hne.out), by (repeat (first | (with_reducible exact Ext.refl _) | assumption | (with_reducible refine Ext.alloc ?_ _) | (with_reducible refine Ext.drew ?_) | (with_reducible refine Ext.drewL ?_) | refine Ext.trans ?_ (by assumption)))⟩
      · have hdec : decide ((k : Int) < n) = false := by simp; omega
        have hdec' : decide (k < n) = false := by simp; omega
        go_wp2
        go_ret
        have he : xs = ys := eq_of_get (by rw [Hxl.out, Hyl.out]) fun j hj => Hd.out j (by have := Hxl.out; omega)
        exact ⟨ret_bool (by simpa using he), by (repeat (first | (with_reducible exact Ext.refl _) | assumption | (with_reducible refine Ext.alloc ?_ _) | (with_reducible refine Ext.drew ?_) | (with_reducible refine Ext.drewL ?_) | refine Ext.trans ?_ (by assumption)))⟩
  · have hne : xs ≠ ys := by intro e; subst e; omega
    have Hne := Lib.hid hne
    have h1 : ((n : Int) != m) = true := by simp; omega
    have h1' : (n != m) = true := by simp; omega
    clear hx hy hxl hyl hne hnm
    go_enter Try.func13, Try.ntmps13
    go_wp2
    go_ret
    exact ⟨ret_bool (by simpa using Hne.out), by (repeat (first | (with_reducible exact Ext.refl _) | assumption | (with_reducible refine Ext.alloc ?_ _) | (with_reducible refine Ext.drew ?_) | (with_reducible refine Ext.drewL ?_) | refine Ext.trans ?_ (by assumption)))⟩
end Go.Proofs.Ytodoeckikkeacaa
