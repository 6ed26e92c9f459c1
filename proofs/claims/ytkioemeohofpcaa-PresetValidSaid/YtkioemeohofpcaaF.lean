/- The walks of awake and of the law PresetGets. Conditions: the ranges that each theorem states. -/
import Derived.Test.YtkioemeohofpcaaE
import Derived.Laws.Concat
namespace Go.Proofs.Ytkioemeohofpcaa
open Go.RowKit Go.Draw

theorem get_is (s : ByteArray) (p : Int) (nm : ByteArray) (rs : List (Nat × Int × Int × Int)) (full er : Int) (w : World) (h : getT s p = (nm, rs, full, er)) :
    Calls Try.prog 9 #[.string s, .int .i64 p] w fun r w' => RetC w (nm, rs, full, er) r w' := by
  rw [← h]; exact get_any s p w
theorem rget_is (s : ByteArray) (p : Int) (nm : ByteArray) (rs : List (Nat × Int × Int × Int)) (full er : Int) (w : World) (h : getT s p = (nm, rs, full, er)) :
    Calls Try.prog 10 #[.string s, .int .i64 p] w fun r w' => RetC w (nm, rs, full, er) r w' := by
  rw [← h]; exact rget_any s p w
theorem presT_len {s : ByteArray} {x : Nat} {y : List (Nat × Int × Int × Int) × Int} (h : presT s x = some y) : y.1.length ≤ 10 := by
  unfold presT at h
  repeat (split at h; (simp only [Option.some.injEq] at h; subst h; simp))
  cases h
theorem getT_len (s : ByteArray) (p : Int) : (getT s p).2.1.length ≤ 10 := by
  unfold getT
  split
  · simp
  · rename_i rs full h
    split
    · exact presT_len h
    · simp
theorem pct25 : pctX 25 = 4598175219545276416 := by decide +kernel
theorem get_xx : getT sXx 25 = (sXx, [(4598175219545276416, 0, 1, 1), (4598175219545276416, 0, 1, 1)], 0, 0) := by
  unfold getT presT
  rw [if_neg (by decide), if_neg (by decide), if_neg (by decide), if_neg (by decide), if_pos rfl, pct25]
  rfl
set_option maxHeartbeats 1000000 in
theorem awake_any (w : World) : Calls Try.prog 12 #[] w fun r w' => r = .returned (.bool true) ∧ Ext w w' := by
  have hh : FloatKind.f64.format.order 4598175219545276416 4598175219545276416 = some .eq := by decide +kernel
  go_enter Try.func12, Try.ntmps12
  go_wp2_with (first | (go_at_call 9; refine (get_is sXx 25 _ _ _ _ _ get_xx).mono ?_; rintro e w1 ⟨A, c, rfl, hO, hE⟩; obtain ⟨g, rfl, _, hgl⟩ := own_form hO (by simp); obtain ⟨hcg, _⟩ := own_cells hO; have q0 := hcg 0 _ rfl; have q7 := hcg 7 _ rfl; clear hcg) | (go_at_call 6; refine (names_any _).mono ?_; rintro e w1 ⟨rfl, rfl⟩))
  go_ret
  exact ⟨rfl, by (repeat (first | (with_reducible exact Ext.refl _) | assumption | (with_reducible refine Ext.alloc ?_ _) | (with_reducible refine Ext.drew ?_) | (with_reducible refine Ext.drewL ?_) | refine Ext.trans ?_ (by assumption)))⟩

theorem blk_strings {w : World} {b : Nat} {k : Nat} (h : Blk w b 9 names) (hk : k < 6) : ∃ s, w.cell? ⟨b, k, none⟩ = some (.string s) ∧ names[k]? = some (.string s) ∧ s.size ≤ 11 := by
  have : k = 0 ∨ k = 1 ∨ k = 2 ∨ k = 3 ∨ k = 4 ∨ k = 5 := by omega
  rcases this with rfl | rfl | rfl | rfl | rfl | rfl
  · exact ⟨_, h.cell 0, rfl, by decide⟩
  · exact ⟨_, h.cell 1, rfl, by decide⟩
  · exact ⟨_, h.cell 2, rfl, by decide⟩
  · exact ⟨_, h.cell 3, rfl, by decide⟩
  · exact ⟨_, h.cell 4, rfl, by decide⟩
  · exact ⟨_, h.cell 5, rfl, by decide⟩
/-- strings in block b -/
def Strs (w : World) (b k : Nat) : Prop := ∀ j, j < k → ∃ s, w.cell? ⟨b, j, none⟩ = some (.string s)
theorem Strs.ext {w w' : World} {b k : Nat} (h : Strs w b k) (he : Ext w w') : Strs w' b k := fun j hj => by
  obtain ⟨z, hz⟩ := h j hj
  exact ⟨z, cell_ext he hz⟩
theorem strs3_mk {w : World} {b : Nat} {t : TypeId} {x y z : ByteArray} (h : Blk w b t #[.string x, .string y, .string z]) : Strs w b 3
  | 0, _ => ⟨x, h.cell 0⟩
  | 1, _ => ⟨y, h.cell 1⟩
  | 2, _ => ⟨z, h.cell 2⟩
  | j + 3, hj => absurd hj (by omega)
def Ints2 (w : World) (b k : Nat) : Prop := ∀ j, j < k → ∃ z, w.cell? ⟨b, j, none⟩ = some (.int .i64 z)
theorem Ints2.ext {w w' : World} {b k : Nat} (h : Ints2 w b k) (he : Ext w w') : Ints2 w' b k := fun j hj => by
  obtain ⟨z, hz⟩ := h j hj
  exact ⟨z, cell_ext he hz⟩
theorem ints2_mk {w : World} {b : Nat} {t : TypeId} {x y : Int} (h : Blk w b t #[.int .i64 x, .int .i64 y]) : Ints2 w b 2
  | 0, _ => ⟨x, h.cell 0⟩
  | 1, _ => ⟨y, h.cell 1⟩
  | j + 2, hj => absurd hj (by omega)

set_option maxRecDepth 100000 in
set_option maxHeartbeats 4000000 in
theorem gets_any (s0 : ByteArray) (p0 k0 : Int) (w : World) :
    Calls Try.prog 3 #[.string s0, .int .i64 p0, .int .i64 k0] w fun r w' => r = .returned (.bool true) ∧ Ext w w' := by
  go_enter Try.func3, Try.ntmps3
  go_wp2_with (first | (go_at_call 6; refine (names_any _).mono ?_; rintro e w1 ⟨rfl, rfl⟩) | (go_at_call 7; refine (rnames_any _).mono ?_; rintro e w1 ⟨rfl, rfl⟩))
  go_loopw [27] (fun i wr => ∃ k : Nat, k ≤ 6 ∧ i = .int .i64 k ∧ Ext ((w.alloc (.cells names 9)).alloc (.cells names 9)) wr) (fun i _ => 6 - (intOf i).toNat)
  case atStart => exact ⟨0, by omega, rfl, Ext.refl _⟩
  case round =>
    obtain ⟨k, hk, rfl, hE⟩ := hrel
    have k1 : Blk wr w.heap.size 9 names := (Blk.alloc (Blk.new rfl) _).ext hE
    have k2 : Blk wr (w.heap.size + 1) 9 names := (Blk.new (by simp)).ext hE
    have hE0 : Ext w wr := Ext.trans (by (repeat (first | (with_reducible exact Ext.refl _) | assumption | (with_reducible refine Ext.alloc ?_ _) | (with_reducible refine Ext.drew ?_) | (with_reducible refine Ext.drewL ?_) | refine Ext.trans ?_ (by assumption)))) hE
    by_cases hlt : k < 6
    · have hdec : decide ((k : Int) < 6) = true := by simp; omega
      have hdec' : decide (k < 6) = true := by simp; omega
      have hkb : (k : Int) < 6 := by omega
      obtain ⟨s, c1, hs, _⟩ := blk_strings k1 hlt
      have c2 : wr.cell? ⟨w.heap.size + 1, k, none⟩ = some (.string s) := by rw [k2.cell, hs]
      have l1 := k1.lt
      have l2 := k2.lt
      clear hs k1 k2
      go_wp2_with fail
      refine wp_region_ext [(true, 0), (true, 1), (true, 2), (true, 3), (true, 4), (true, 5), (true, 6), (true, 7), (true, 8)] Try.mixed (by kernel_rfl) (by simp only [pick, List.filterMap_cons, List.filterMap_nil, List.getElem?_toArray, List.getElem?_cons_succ, List.getElem?_cons_zero, Option.map_some]; rfl) ?_
      intro hx
      repeat (first
        | (refine wpL_take hx (v := ?_) (by rfl) (fun _ hc => ?_) ?_
           rotate_left
           focus (go_simp; (try go_ints); exact rfl)
           simp only [Act.put, List.setIfInBounds_toArray, List.set_cons_zero, List.set_cons_succ])
        | (refine wpL_skip (by rfl) ?_; simp only [Act.put, List.setIfInBounds_toArray, List.set_cons_zero, List.set_cons_succ])
        | (refine wpL_call (by rfl) (fun K hK => ?_); go_simp; (first | (refine hK _ _ ?_ ?_; (focus ((repeat (first | (with_reducible exact Ext.refl _) | assumption | (with_reducible refine Ext.alloc ?_ _) | (with_reducible refine Ext.drew ?_) | (with_reducible refine Ext.drewL ?_) | refine Ext.trans ?_ (by assumption))); done))) | (refine hK undef _ ?_ ?_; (focus ((repeat (first | (with_reducible exact Ext.refl _) | assumption | (with_reducible refine Ext.alloc ?_ _) | (with_reducible refine Ext.drew ?_) | (with_reducible refine Ext.drewL ?_) | refine Ext.trans ?_ (by assumption))); done)))); clear hK; intro hr; replace hx := hx.trans hr; clear hr; try simp only [Act.put, List.setIfInBounds_toArray, List.set_cons_zero, List.set_cons_succ]))
      refine wpL_end ?_
      go_wp2
      go_roundw
      case rel => exact ⟨k + 1, by omega, by go_num, by (repeat (first | (with_reducible exact Ext.refl _) | assumption | (with_reducible refine Ext.alloc ?_ _) | (with_reducible refine Ext.drew ?_) | (with_reducible refine Ext.drewL ?_) | refine Ext.trans ?_ (by assumption)))⟩
      case measure => simp [intOf]; omega
    · have hdec : decide ((k : Int) < 6) = false := by simp; omega
      have hdec' : decide (k < 6) = false := by simp; omega
      clear hk hlt
      obtain ⟨i, hi, hi6⟩ := mod_ex k0 6 (by omega)
      have Hi := Lib.hid (show k0 % 6 = (i : Int) from hi)
      have hiI : (i : Int) < 6 := by omega
      obtain ⟨s, c2, _, hs11⟩ := blk_strings k2 hi6
      have hsz1 : (ByteArray.mk #[32]).size = 1 := rfl
      have hadd := fun W : World => run_string_add_sum (P := Try.prog) (w := W) s ⟨#[32]⟩ (by omega)
      clear hsz1 hs11
      have l2 := k2.lt
      clear k1 k2 hi
      rename World => wn
      go_wp2_with fail
      refine wp_region_ext [(true, 0), (true, 1), (true, 2), (true, 3), (true, 4), (true, 5), (true, 6), (true, 7), (true, 8), (true, 9), (true, 10), (true, 11), (true, 14), (false, 12), (true, 13)] Try.mixed (by kernel_rfl) (by simp only [pick, List.filterMap_cons, List.filterMap_nil, List.getElem?_toArray, List.getElem?_cons_succ, List.getElem?_cons_zero, Option.map_some]; rfl) ?_
      intro hx
      repeat (first
        | (refine wpL_take hx (v := ?_) (by rfl) (fun _ hc => ?_) ?_
           rotate_left
           focus (go_simp; (try go_ints); exact rfl)
           simp only [Act.put, List.setIfInBounds_toArray, List.set_cons_zero, List.set_cons_succ])
        | (refine wpL_quiet 8 (args := ?_) (v := ?_) (by rfl) (fun _ => ?_) (fun _ => ?_) ?_; rotate_left 2; (focus (go_simp; exact rfl)); (focus (refine (mod_to _ _ _ _ (by omega) (by omega) Hi.out).mono ?_; rintro _ _ ⟨rfl, rfl⟩; refine ⟨?_, ?_⟩ <;> exact rfl)); simp only [Act.put, List.setIfInBounds_toArray, List.set_cons_zero, List.set_cons_succ])
        | (refine wpL_skip (by rfl) ?_; simp only [Act.put, List.setIfInBounds_toArray, List.set_cons_zero, List.set_cons_succ])
        | (refine wpL_call (by rfl) (fun K hK => ?_); go_simp; go_at_call 8; refine (mod_to _ _ _ _ (by omega) (by omega) Hi.out).mono ?_; rintro e w1 ⟨rfl, rfl⟩; refine hK _ _ (Ext.refl _) ?_; clear hK; intro hr; replace hx := hx.trans hr; clear hr; simp only [Act.put, List.setIfInBounds_toArray, List.set_cons_zero, List.set_cons_succ])
        | (refine wpL_call (by rfl) (fun K hK => ?_); go_simp; (first | (refine hK _ _ ?_ ?_; (focus ((repeat (first | (with_reducible exact Ext.refl _) | assumption | (with_reducible refine Ext.alloc ?_ _) | (with_reducible refine Ext.drew ?_) | (with_reducible refine Ext.drewL ?_) | refine Ext.trans ?_ (by assumption))); done))) | (refine hK undef _ ?_ ?_; (focus ((repeat (first | (with_reducible exact Ext.refl _) | assumption | (with_reducible refine Ext.alloc ?_ _) | (with_reducible refine Ext.drew ?_) | (with_reducible refine Ext.drewL ?_) | refine Ext.trans ?_ (by assumption))); done)))); clear hK; intro hr; replace hx := hx.trans hr; clear hr; try simp only [Act.put, List.setIfInBounds_toArray, List.set_cons_zero, List.set_cons_succ]))
      refine wpL_end ?_
      go_wp2_with fail
      go_loopw [54] (fun i wr => ∃ k : Nat, k ≤ 3 ∧ i = .int .i64 k ∧ Ext wn wr ∧ Strs wr wn.heap.size 3) (fun i _ => 3 - (intOf i).toNat)
      case atStart => exact ⟨0, by omega, rfl, by (repeat (first | (with_reducible exact Ext.refl _) | assumption | (with_reducible refine Ext.alloc ?_ _) | (with_reducible refine Ext.drew ?_) | (with_reducible refine Ext.drewL ?_) | refine Ext.trans ?_ (by assumption))), strs3_mk (t := 9) (Blk.new (by simp))⟩
      case round =>
        obtain ⟨k, hk, rfl, hE2, hS⟩ := hrel
        have hE02 : Ext w wr := hE0.trans hE2
        by_cases hk3 : k < 3
        · have dk : decide ((k : Int) < 3) = true := by simp; omega
          have dk' : decide (k < 3) = true := by simp; omega
          have hkI : (k : Int) < 3 := by omega
          obtain ⟨sk, hsk⟩ := hS k hk3
          have lsk := cell_lt hsk
          rename World => wm
          go_wp2_with (first | (go_at_call 8; refine (mod_any _ _ _ (by omega) (by omega)).mono ?_; rintro e w1 ⟨rfl, rfl⟩))
          go_loopw [64] (fun i wr => ∃ k : Nat, k ≤ 2 ∧ i = .int .i64 k ∧ Ext wm wr ∧ Ints2 wr wm.heap.size 2) (fun i _ => 2 - (intOf i).toNat)
          case atStart => exact ⟨0, by omega, rfl, by (repeat (first | (with_reducible exact Ext.refl _) | assumption | (with_reducible refine Ext.alloc ?_ _) | (with_reducible refine Ext.drew ?_) | (with_reducible refine Ext.drewL ?_) | refine Ext.trans ?_ (by assumption))), ints2_mk (t := 3) (Blk.new (by simp))⟩
          case round =>
            obtain ⟨j, hj, rfl, hE3, hI⟩ := hrel
            by_cases hj2 : j < 2
            · have dj : decide ((j : Int) < 2) = true := by simp; omega
              have dj' : decide (j < 2) = true := by simp; omega
              have hjI : (j : Int) < 2 := by omega
              obtain ⟨p, hp⟩ := hI j hj2
              have lp := cell_lt hp
              obtain ⟨nm, rs, full, er, hg⟩ : ∃ nm rs full er, getT sk p = (nm, rs, full, er) := ⟨_, _, _, _, rfl⟩
              have hlen : rs.length ≤ 10 := by have := getT_len sk p; rw [hg] at this; exact this
              have hne : (er != er) = false := by simp
              have Hg := Lib.hid hg
              clear hg
              go_wp2_with (first | (go_at_call 9; refine (get_is _ _ _ _ _ _ _ Hg.out).mono ?_; rintro e w1 ⟨A1, c1, rfl, hO1, hE1⟩) | (go_at_call 10; refine (rget_is _ _ _ _ _ _ _ Hg.out).mono ?_; rintro e w1 ⟨A2, c2, rfl, hO2, hE2⟩; have kx := blk_of_ext hE2; have cx := kx.cell; have lx := kx.lt) | (go_at_call 11; refine (same_any _ _ _ _ _ _ rs _ _ ((Rd.of_own hO1).ext (by (repeat (first | (with_reducible exact Ext.refl _) | assumption | (with_reducible refine Ext.alloc ?_ _) | (with_reducible refine Ext.drew ?_) | (with_reducible refine Ext.drewL ?_) | refine Ext.trans ?_ (by assumption))))) ((Rd.of_own hO2).ext (by (repeat (first | (with_reducible exact Ext.refl _) | assumption | (with_reducible refine Ext.alloc ?_ _) | (with_reducible refine Ext.drew ?_) | (with_reducible refine Ext.drewL ?_) | refine Ext.trans ?_ (by assumption))))) rfl (by omega)).mono ?_; rintro e w1 ⟨rfl, hE3⟩))
              have hX : Ext wr w1 := by (repeat (first | (with_reducible exact Ext.refl _) | assumption | (with_reducible refine Ext.alloc ?_ _) | (with_reducible refine Ext.drew ?_) | (with_reducible refine Ext.drewL ?_) | refine Ext.trans ?_ (by assumption)))
              go_roundw
              case rel => exact ⟨j + 1, by omega, by go_num, by (repeat (first | (with_reducible exact Ext.refl _) | assumption | (with_reducible refine Ext.alloc ?_ _) | (with_reducible refine Ext.drew ?_) | (with_reducible refine Ext.drewL ?_) | refine Ext.trans ?_ (by assumption))), hI.ext hX⟩
              case measure => simp [intOf]; omega
            · have dj : decide ((j : Int) < 2) = false := by simp; omega
              have dj' : decide (j < 2) = false := by simp; omega
              go_wp2
              go_roundw
              case rel => exact ⟨k + 1, by omega, by go_num, by (repeat (first | (with_reducible exact Ext.refl _) | assumption | (with_reducible refine Ext.alloc ?_ _) | (with_reducible refine Ext.drew ?_) | (with_reducible refine Ext.drewL ?_) | refine Ext.trans ?_ (by assumption))), hS.ext hE3⟩
              case measure => simp [intOf]; omega
        · have dk : decide ((k : Int) < 3) = false := by simp; omega
          have dk' : decide (k < 3) = false := by simp; omega
          go_wp2_with (first | (go_at_call 12; refine (awake_any _).mono ?_; rintro e w1 ⟨rfl, hE8⟩))
          go_ret
          exact ⟨rfl, by (repeat (first | (with_reducible exact Ext.refl _) | assumption | (with_reducible refine Ext.alloc ?_ _) | (with_reducible refine Ext.drew ?_) | (with_reducible refine Ext.drewL ?_) | refine Ext.trans ?_ (by assumption)))⟩
end Go.Proofs.Ytkioemeohofpcaa
