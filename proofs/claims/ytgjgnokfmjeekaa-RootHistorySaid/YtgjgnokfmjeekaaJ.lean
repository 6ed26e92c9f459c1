/- The walk of the law RootHistory. Conditions: the ranges that each theorem states. -/
import Derived.Test.YtgjgnokfmjeekaaI
import Derived.LoopN
import Derived.Deep.CutBlock
namespace Go.Proofs.Ytgjgnokfmjeekaa
open Go.RowKit Go.Draw

/-- between two rounds: the table in t4 and the array in t5 tell the same -/
structure Sx (w : World) (d b4 b5 : Nat) (us : List Bool) (rs : List Int) (g g' c c' : Nat) : Prop where
  ul : us.length = 32
  rl : rs.length = 32
  same : ∀ k, k < 32 → us.getD k false = (rs.getD k 0 != 0)
  k4 : Blk w b4 30 #[.slice (some ⟨g, 0, none⟩) 32 c, .slice (some ⟨g', 0, none⟩) 32 c']
  ou : w.ownsRow (d + 1) 4 1 (.slice (some ⟨g, 0, none⟩) 32 c) 32 (bools us)
  orr : w.ownsRow (d + 1) 32 1 (.slice (some ⟨g', 0, none⟩) 32 c') 32 (words rs)
  k5 : Blk w b5 33 (words rs).toArray
  dk : Dk w d
  l1 : d < b4
  l2 : b4 < b5
  n1 : g ≠ b4
  n2 : g ≠ b5
  n3 : g' ≠ b4
  n4 : g' ≠ b5
section
variable {w w' : World} {d b4 b5 : Nat} {us : List Bool} {rs : List Int} {g g' c c' : Nat}
theorem Sx.ext (h : Sx w d b4 b5 us rs g g' c c') (he : Ext w w') : Sx w' d b4 b5 us rs g g' c c' :=
  { h with k4 := h.k4.ext he, ou := own_ext h.ou he, orr := own_ext h.orr he, k5 := h.k5.ext he, dk := h.dk.ext he }
theorem Sx.next (h : Sx w d b4 b5 us rs g g' c c') (hb : But [d] w w') (hd : Dk w' d) : Sx w' d b4 b5 us rs g g' c c' :=
  { h with
    k4 := h.k4.but hb (by have := h.l1; simp; omega)
    ou := own_but h.ou hb (fun q hq => by have := (World.ownsRow.lt h.ou q hq).1; simp; omega)
    orr := own_but h.orr hb (fun q hq => by have := (World.ownsRow.lt h.orr q hq).1; simp; omega)
    k5 := h.k5.but hb (by have := h.l1; have := h.l2; simp; omega)
    dk := hd }
theorem sx_valid (h : Sx w d b4 b5 us rs g g' c c') : validT us rs = true := by
  refine valid_yes us rs h.ul h.rl fun j hj => ?_
  have hs := h.same j hj
  have hl : j < us.length := by rw [h.ul]; exact hj
  unfold okAt
  rw [List.getD_eq_getElem?_getD, List.getElem?_eq_getElem hl] at hs ⊢
  simp only [Option.getD_some] at hs ⊢
  rw [hs]
  generalize rs.getD j 0 = z
  by_cases h0 : z = 0 <;> simp [h0]
theorem sx_us (h : Sx w d b4 b5 us rs g g' c c') {j : Nat} (hj : j < 32) : us[j]? = some (rs.getD j 0 != 0) := by
  have hs := h.same j hj
  have hl : j < us.length := by rw [h.ul]; exact hj
  rw [List.getD_eq_getElem?_getD, List.getElem?_eq_getElem hl] at hs
  rw [List.getElem?_eq_getElem hl]
  simp only [Option.getD_some] at hs
  rw [hs]
theorem sx_free (h : Sx w d b4 b5 us rs g g' c c') (v : Int) {m : Nat} (hm : m < 32) (hl : ∀ j, j < m → (rs.getD j 0 != 0) = true) (hz : rs.getD m 0 = 0) : takeT us rs v = (us.set m true, rs.set m v, (m : Int) + 1, 0) := by
  have hi : us.idxOf false = m := freeI_at us m (fun j hj => by rw [sx_us h (by omega), hl j hj]) (by rw [sx_us h hm, hz]; rfl)
  have hlt : us.idxOf false < us.length := by rw [hi, h.ul]; exact hm
  simp only [takeT, sx_valid h, if_true, if_pos hlt]
  rw [hi]
theorem sx_full (h : Sx w d b4 b5 us rs g g' c c') (v : Int) (hl : ∀ j, j < 32 → (rs.getD j 0 != 0) = true) : takeT us rs v = ([], [], 0, 15) := by
  have hf : freeI us = -1 := freeI_none us fun j hj => by rw [sx_us h (by rw [← h.ul]; exact hj), hl j (by rw [← h.ul]; exact hj)]
  have hlt : ¬ us.idxOf false < us.length := by
    intro hh
    simp only [freeI, if_pos hh] at hf
    omega
  simp only [takeT, sx_valid h, if_true, if_neg hlt]
theorem sx_check (h : Sx w d b4 b5 us rs g g' c c') {i : Nat} (hi : i < 32) : checkT us rs (1 + (i : Int)) = if (rs.getD i 0 != 0) = true then 0 else 14 := by
  have e0 : (1 + (i : Int) - 1).toNat = i := by omega
  have hu : us.getD i false = (rs.getD i 0 != 0) := h.same i hi
  simp only [checkT, sx_valid h, if_true, e0, hu]
  by_cases h0 : (rs.getD i 0 != 0) = true
  · rw [if_pos ⟨by omega, by omega, h0⟩, if_pos h0]
  · rw [if_neg (fun hh => h0 hh.2.2), if_neg h0]
theorem sx_drop_yes (h : Sx w d b4 b5 us rs g g' c c') {i : Nat} (hi : i < 32) (h0 : (rs.getD i 0 != 0) = true) : dropT us rs (1 + (i : Int)) = (us.set i false, rs.set i 0, 0) := by
  have hc := sx_check h hi
  rw [if_pos h0] at hc
  have e0 : (1 + (i : Int) - 1).toNat = i := by omega
  simp only [dropT, hc, if_true, e0]
theorem sx_drop_no (h : Sx w d b4 b5 us rs g g' c c') {i : Nat} (hi : i < 32) (h0 : (rs.getD i 0 != 0) = false) : dropT us rs (1 + (i : Int)) = ([], [], 14) := by
  have hc := sx_check h hi
  rw [if_neg (by rw [h0]; simp)] at hc
  simp [dropT, hc]
theorem sx_get (h : Sx w d b4 b5 us rs g g' c c') {i : Nat} (hi : i < 32) : getT us rs ((i : Int) + 1) = if (rs.getD i 0 != 0) = true then (rs.getD i 0, 0) else (0, 14) := by
  have hc := sx_check h hi
  have e0 : ((i : Int) + 1 - 1).toNat = i := by omega
  rw [show (1 : Int) + (i : Int) = (i : Int) + 1 from by omega] at hc
  by_cases h0 : (rs.getD i 0 != 0) = true
  · rw [if_pos h0] at hc ⊢
    simp only [getT, hc, if_true, e0]
  · rw [if_neg h0] at hc ⊢
    simp [getT, hc]
theorem sx_put {w6 : World} {b : Bool} {v : Int} {m g6 g6' c6 c6' : Nat} (h : Sx w d b4 b5 us rs g g' c c') (hm : m < 32) (hbv : b = (v != 0)) (hE : Ext w w6)
    (hA6 : w6.ownsRow w.heap.size 4 1 (.slice (some ⟨g6, 0, none⟩) 32 c6) 32 (bools (us.set m b))) (hB6 : w6.ownsRow w.heap.size 32 1 (.slice (some ⟨g6', 0, none⟩) 32 c6') 32 (words (rs.set m v))) (hg : w.heap.size ≤ g6) (hg' : w.heap.size ≤ g6') (X : Obj) :
    Sx ((((w6.setCell ⟨b4, 0, none⟩ (.slice (some ⟨g6, 0, none⟩) 32 c6)).setCell ⟨b4, 1, none⟩ (.slice (some ⟨g6', 0, none⟩) 32 c6')).setCell ⟨b5, m, none⟩ (.int .u64 v)).alloc X) d b4 b5 (us.set m b) (rs.set m v) g6 g6' c6 c6' := by
  have h6 := h.ext hE
  have e4 := h.k4.lt
  have e5 := h.k5.lt
  have l1 := h.l1
  have l2 := h.l2
  refine ⟨by simp [h.ul], by simp [h.rl], fun k hk => ?_, ?_, ?_, ?_, ?_, ?_, l1, l2, by omega, by omega, by omega, by omega⟩
  · have hs := h.same k hk
    have k1 : k < us.length := by rw [h.ul]; exact hk
    have k2 : k < rs.length := by rw [h.rl]; exact hk
    simp only [List.getD_eq_getElem?_getD, List.getElem?_set] at hs ⊢
    by_cases e : m = k
    · subst e
      simp [k1, k2, hbv]
    · simp only [e, if_false]
      exact hs
  · have := (((h6.k4.set_ 0 (.slice (some ⟨g6, 0, none⟩) 32 c6)).set_ 1 (.slice (some ⟨g6', 0, none⟩) 32 c6')).far (p := ⟨b5, m, none⟩) (by show b4 ≠ b5; omega) (.int .u64 v)).alloc X
    exact this
  · exact own_alloc (own_other (own_other (own_other (own_base hA6 (by omega)) (by show g6 ≠ b4; omega) _) (by show g6 ≠ b4; omega) _) (by show g6 ≠ b5; omega) _) _
  · exact own_alloc (own_other (own_other (own_other (own_base hB6 (by omega)) (by show g6' ≠ b4; omega) _) (by show g6' ≠ b4; omega) _) (by show g6' ≠ b5; omega) _) _
  · have := (((h6.k5.far (p := ⟨b4, 0, none⟩) (by show b5 ≠ b4; omega) (.slice (some ⟨g6, 0, none⟩) 32 c6)).far (p := ⟨b4, 1, none⟩) (by show b5 ≠ b4; omega) (.slice (some ⟨g6', 0, none⟩) 32 c6')).set_ m (.int .u64 v)).alloc X
    have e : (words rs).toArray.setIfInBounds m (.int .u64 v) = (words (rs.set m v)).toArray := by rw [← words_set]; simp
    rw [e] at this
    exact this
  · refine h6.dk.but (S := [b4, b5]) (But.alloc (But.setCell (But.setCell (But.setCell (But.refl _ _) ?_ _) ?_ _) ?_ _) _) ?_
    · simp
    · simp
    · simp
    · intro x hx
      simp at hx
      rcases hx with rfl | rfl <;> omega
end
def St (w : World) (d b4 b5 : Nat) : Prop := ∃ (us : List Bool) (rs : List Int) (g g' c c' : Nat), Sx w d b4 b5 us rs g g' c c'
theorem St.ext {w w' : World} {d b4 b5 : Nat} (h : St w d b4 b5) (he : Ext w w') : St w' d b4 b5 := by
  obtain ⟨us, rs, g, g', c, c', h⟩ := h
  exact ⟨us, rs, g, g', c, c', h.ext he⟩
theorem St.dk {w : World} {d b4 b5 : Nat} (h : St w d b4 b5) : Dk w d := by
  obtain ⟨us, rs, g, g', c, c', h⟩ := h
  exact h.dk
theorem zero_same : ∀ k, k < 32 → (List.replicate 32 false).getD k false = ((List.replicate 32 (0 : Int)).getD k 0 != 0) := by decide

theorem info33 : (Try.prog.info? 33).map (·.size) = some 32 := by kernel_rfl
theorem index_words (rs : List Int) (j : Nat) (hj : j < rs.length) (h32 : rs.length = 32) (W : World) : (Instr.index 33 (.agg (words rs).toArray) (.int .i64 (j : Int))).run Try.prog W = .ok (.int .u64 rs[j]) W := by
  have hsz : (Try.prog.info? 32).map (·.size) = some 1 := by kernel_rfl
  obtain ⟨i, hi, hz⟩ := Option.map_eq_some_iff.1 hsz
  have hc : (words rs)[j]? = some (.int .u64 rs[j]) := by simp [words, hj]
  have hlt : j < 32 := by omega
  simp [Instr.index, asIntOf, run_underlying Try.underlying33, sizeOf, typeInfo, hi, hz, part, isAgg, run_underlying Try.underlying32, hc, hlt]

set_option maxRecDepth 100000 in
set_option maxHeartbeats 2000000 in
theorem history_any (A : Option Addr) (n c : Nat) (zs : List Int) (w : World) (hz : Rd w A n 1 (ints zs)) :
    Calls Try.prog 3 #[.slice A n c] w fun r w' => r = .returned (.bool true) ∧ Ext w w' := by
  by_cases hn : n ≤ 400
  · have hdec : decide ((n : Int) ≤ 400) = true := by simp; omega
    go_enter Try.func3, Try.ntmps3
    go_wp2_with fail
    go_at_call 6
    refine (few_any _ _ _ _).mono ?_
    rintro e w' ⟨rfl, rfl⟩
    go_wp2_with fail
    go_at_call 8
    refine (deck_any A n c zs _ hz (by omega)).mono ?_
    rintro e w1 ⟨rfl, hD, hE⟩
    go_wp2_with fail
    go_at_call 9
    refine (new_any _).mono ?_
    rintro e w2 ⟨A2, c2, B2, d2, rfl, hA2, hB2, hE2⟩
    obtain ⟨g, rfl, hg1, hg2⟩ := own_form hA2 (by omega)
    obtain ⟨g', rfl, hg1', hg2'⟩ := own_form hB2 (by omega)
    have hz1 := hE.size_le
    have hz2 := hE2.size_le
    have hDl := hD.lt
    go_wp2
    have hDl' : w1.heap.size = w1.heap.size := rfl
    have hSt : St ((w2.alloc (.cells #[.slice (some ⟨g, 0, none⟩) 32 c2, .slice (some ⟨g', 0, none⟩) 32 d2] 30)).alloc (.cells (words (List.replicate 32 0)).toArray 33)) w.heap.size w2.heap.size (w2.heap.size + 1) := by
      refine ⟨List.replicate 32 false, List.replicate 32 0, g, g', c2, d2, by simp, by simp, zero_same, (Blk.new rfl).alloc _, own_alloc (own_alloc (own_base hA2 (by omega)) _) _, own_alloc (own_alloc (own_base hB2 (by omega)) _) _, Blk.new (by simp), ((hD.ext hE2).ext (by (repeat (first | (with_reducible exact Ext.refl _) | assumption | (with_reducible refine Ext.alloc ?_ _) | (with_reducible refine Ext.drew ?_) | (with_reducible refine Ext.drewL ?_) | refine Ext.trans ?_ (by assumption))))), by omega, by omega, by omega, by omega, by omega, by omega⟩
    have hE0 : Ext w ((w2.alloc (.cells #[.slice (some ⟨g, 0, none⟩) 32 c2, .slice (some ⟨g', 0, none⟩) 32 d2] 30)).alloc (.cells (words (List.replicate 32 0)).toArray 33)) := by (repeat (first | (with_reducible exact Ext.refl _) | assumption | (with_reducible refine Ext.alloc ?_ _) | (with_reducible refine Ext.drew ?_) | (with_reducible refine Ext.drewL ?_) | refine Ext.trans ?_ (by assumption)))
    have hb4 : w.heap.size < w2.heap.size := by omega
    clear hDl' hz1 hz2 hDl hD hE2 hE hA2 hB2 hg1 hg2 hg1' hg2' hz
    go_loopw [6] (fun i wr => ∃ k : Nat, k ≤ 90 ∧ i = .int .i64 k ∧ Ext w wr ∧ St wr w.heap.size w2.heap.size (w2.heap.size + 1)) (fun i _ => 90 - (intOf i).toNat)
    case atStart => exact ⟨0, by omega, rfl, hE0, hSt⟩
    case round =>
      obtain ⟨k, hk, rfl, hEr, hS⟩ := hrel
      clear hSt hE0
      by_cases hlt : k < 90
      · have hdk : decide ((k : Int) < 90) = true := by simp; omega
        go_wp2_with fail
        go_at_call 10
        refine (left_any _ _ hS.dk).mono ?_
        rintro e w3 ⟨b, rfl, hE3⟩
        have hS3 := hS.ext hE3
        have hE3' := hEr.trans hE3
        clear hS hE3 hEr
        cases b with
        | false =>
          go_wp2_with (first | (go_at_call 7; refine (awake_any _).mono ?_; rintro e w1 ⟨rfl, hEA⟩))
          go_ret
          exact ⟨rfl, by (repeat (first | (with_reducible exact Ext.refl _) | assumption | (with_reducible refine Ext.alloc ?_ _) | (with_reducible refine Ext.drew ?_) | (with_reducible refine Ext.drewL ?_) | refine Ext.trans ?_ (by assumption)))⟩
        | true =>
          obtain ⟨us, rs, g1, g1', c1, c1', hS⟩ := hS3
          clear hdk
          have hdk : decide ((k : Int) < 90) = true := by simp; omega
          go_upto_block 2 with (fail)
          go_cut [7] (fun t wx => ∃ m : Nat, m ≤ 32 ∧ t = .int .i64 m ∧ (∀ j, j < m → (rs.getD j 0 != 0) = true) ∧ (m < 32 → rs.getD m 0 = 0) ∧ wx = w3)
          case first =>
            go_wp2
            go_loop [7] (fun t => ∃ m : Nat, m ≤ 32 ∧ t = .int .i64 m ∧ ∀ j, j < m → (rs.getD j 0 != 0) = true) (fun t => 32 - (intOf t).toNat)
            case atStart => exact ⟨0, by omega, rfl, fun j hj => by omega⟩
            case round =>
              obtain ⟨m, hm, rfl, hl⟩ := hrel
              have Hl := Lib.hid hl
              clear hl
              by_cases hm32 : m < 32
              · have d1 : decide ((m : Int) < 32) = true := by simp; omega
                have hml : m < rs.length := by rw [hS.rl]; exact hm32
                have fm : w3.cell? ⟨w2.heap.size + 1, m, none⟩ = some (.int .u64 rs[m]) := by rw [hS.k5.cell]; simp [words, hml]
                have e1 : rs.getD m 0 = rs[m] := by simp [List.getD_eq_getElem?_getD, hml]
                have E1 := Lib.hid e1
                clear e1
                by_cases hr0 : rs[m] = 0
                · have b1 : (rs[m] != 0) = false := by simpa using hr0
                  have Hr0 := Lib.hid hr0
                  clear hr0
                  generalize rs[m] = r at *
                  go_wp2
                  go_meet
                  exact ⟨m, hm, rfl, Hl.out, fun _ => by rw [E1.out, Hr0.out], rfl⟩
                · have b1 : (rs[m] != 0) = true := by simpa using hr0
                  clear hr0
                  generalize rs[m] = r at *
                  have B1 := Lib.hid b1
                  go_wp2
                  go_round
                  case rel => exact ⟨m + 1, by omega, by go_num, fun j hj => by
                    by_cases e : j = m
                    · subst e; rw [E1.out]; exact B1.out
                    · exact Hl.out j (by omega)⟩
                  case measure => simp [intOf]; omega
              · have d1 : decide ((m : Int) < 32) = false := by simp; omega
                go_wp2
                go_meet
                exact ⟨m, hm, rfl, Hl.out, fun h => absurd h hm32, rfl⟩
          case rest =>
            obtain ⟨m, hm, rfl, hl, hzm, rfl⟩ := hcut
            have Hl := Lib.hid hl
            have Hzm := Lib.hid hzm
            clear hl hzm
            go_upto_if 46 with (go_at_call 11; refine (next_any _ 3 _ hS.dk (by omega) (by omega)).mono ?_; rintro e w4 ⟨x, rfl, hx0, hx3, hD4, hB4⟩)
            have hS4 := hS.next hB4 hD4
            have hE4 : Ext w w4 := But.ext hE3' hB4 (by simp)
            clear hB4 hD4 hS hE3'
            go_cut [] (fun wx => Ext w wx ∧ St wx w.heap.size w2.heap.size (w2.heap.size + 1))
            case first =>
              by_cases hx : 0 < x
              · have dx : decide (0 < x) = true := by simpa using hx
                clear hx0 hx3
                go_wp2_with fail
                go_at_call 11
                refine (next_any _ 1000 _ hS4.dk (by omega) (by omega)).mono ?_
                rintro e w5 ⟨v, rfl, hv0, hv1, hD5, hB5⟩
                have hS5 := hS4.next hB5 hD5
                have hE5 : Ext w w5 := But.ext hE4 hB5 (by simp)
                clear hB5 hD5 hS4 hE4
                have hc4 := hS5.k4.cell
                have hca := hS5.k5
                by_cases hm32 : m < 32
                · have ht := sx_free hS5 (1 + v) hm32 Hl.out (Hzm.out hm32)
                  have dm : decide (m = 32) = false := by simp; omega
                  have bm : ((m : Int) == 32) = false := by simp; omega
                  go_wp2_with fail
                  go_at_call 12
                  refine (take_any _ _ _ _ _ _ us rs (1 + v) _ (Rd.of_own hS5.ou) (Rd.of_own hS5.orr)).mono ?_
                  rw [ht]
                  rintro e w6 ⟨A6, c6, B6, d6, he, hA6, hB6, hE6⟩
                  rw [List.length_set, hS5.ul, List.length_set, hS5.rl] at he
                  rw [List.length_set, hS5.ul] at hA6
                  rw [List.length_set, hS5.rl] at hB6
                  subst he
                  obtain ⟨g6, rfl, hg6, _⟩ := own_form hA6 (by omega)
                  obtain ⟨g6', rfl, hg6', _⟩ := own_form hB6 (by omega)
                  have hS6 := hS5.ext hE6
                  have hc6 := hS6.k4.cell
                  have hf6 := hS6.k4.froz
                  have hfa := hS6.k5.froz
                  have hlm : m < rs.length := by rw [hS6.rl]; exact hm32
                  have hca6 : w6.cell? ⟨w2.heap.size + 1, m, none⟩ = some (.int .u64 rs[m]) := by rw [hS6.k5.cell]; simp [words, hlm]
                  have hl4 := hS6.k4.lt
                  have hl5 := hS6.k5.lt
                  have hz6 := hE6.size_le
                  have hbm : (m : Int) < 32 := by omega
                  go_wp2
                  go_meet
                  refine ⟨?_, _, _, _, _, _, _, sx_put hS5 hm32 ?_ hE6 hA6 hB6 hg6 hg6' _⟩
                  · refine Ext.alloc (Ext.setCell (Ext.setCell (Ext.setCell (hE5.trans hE6) ?_ _) ?_ _) ?_ _) _
                    · show w.heap.size ≤ w2.heap.size; omega
                    · show w.heap.size ≤ w2.heap.size; omega
                    · show w.heap.size ≤ w2.heap.size + 1; omega
                  · have : (1 + v != 0) = true := by simp; omega
                    rw [this]
                · have ht := sx_full hS5 (1 + v) (fun j hj => Hl.out j (by omega))
                  obtain rfl : m = 32 := by omega
                  go_wp2_with fail
                  go_at_call 12
                  refine (take_any _ _ _ _ _ _ us rs (1 + v) _ (Rd.of_own hS5.ou) (Rd.of_own hS5.orr)).mono ?_
                  rw [ht]
                  rintro e w6 ⟨A6, c6, B6, d6, rfl, hA6, hB6, hE6⟩
                  have hS6 := hS5.ext hE6
                  have hE7 := hE5.trans hE6
                  go_wp2
                  go_roundw
                  case rel => exact ⟨k + 1, by omega, by go_num, by (repeat (first | (with_reducible exact Ext.refl _) | assumption | (with_reducible refine Ext.alloc ?_ _) | (with_reducible refine Ext.drew ?_) | (with_reducible refine Ext.drewL ?_) | refine Ext.trans ?_ (by assumption))), us, rs, g1, g1', c1, c1', hS6.ext (by (repeat (first | (with_reducible exact Ext.refl _) | assumption | (with_reducible refine Ext.alloc ?_ _) | (with_reducible refine Ext.drew ?_) | (with_reducible refine Ext.drewL ?_) | refine Ext.trans ?_ (by assumption))))⟩
                  case measure => simp [intOf]; omega
              · have dx : decide (0 < x) = false := by simpa using hx
                obtain rfl : x = 0 := by omega
                clear hx0 hx3
                go_wp2_with fail
                go_at_call 11
                refine (next_any _ 32 _ hS4.dk (by omega) (by omega)).mono ?_
                rintro e w5 ⟨v, rfl, hv0, hv1, hD5, hB5⟩
                have hS5 := hS4.next hB5 hD5
                have hE5 : Ext w w5 := But.ext hE4 hB5 (by simp)
                clear hB5 hD5 hS4 hE4
                have hc4 := hS5.k4.cell
                have hca := hS5.k5
                obtain ⟨i, rfl⟩ : ∃ i : Nat, v = (i : Int) := ⟨v.toNat, by omega⟩
                have hi32 : i < 32 := by omega
                have hil : i < rs.length := by rw [hS5.rl]; exact hi32
                go_wp2_with fail
                go_at_call 13
                refine (drop_any _ _ _ _ _ _ us rs _ _ (Rd.of_own hS5.ou) (Rd.of_own hS5.orr)).mono ?_
                have e1 : rs.getD i 0 = rs[i] := by simp [List.getD_eq_getElem?_getD, hil]
                have hbi : (i : Int) < 32 := by omega
                have bi : 1 + (i : Int) - 1 = i := by omega
                by_cases hr0 : rs[i] = 0
                · have b1 : (rs[i] != 0) = false := by simpa using hr0
                  rw [sx_drop_no hS5 hi32 (by rw [e1]; exact b1)]
                  rintro e w6 ⟨A6, c6, B6, d6, rfl, hA6, hB6, hE6⟩
                  have hS6 := hS5.ext hE6
                  have hE7 := hE5.trans hE6
                  have hca6 : w6.cell? ⟨w2.heap.size + 1, i, none⟩ = some (.int .u64 rs[i]) := by rw [hS6.k5.cell]; simp [words, hil]
                  have hl5 := hS6.k5.lt
                  have hl4 := hS6.k4.lt
                  have hc6 := hS6.k4.cell
                  have hf6 := hS6.k4.froz
                  have hfa := hS6.k5.froz
                  clear hr0 e1
                  generalize rs[i] = r at *
                  go_wp2
                  go_meet
                  exact ⟨by (repeat (first | (with_reducible exact Ext.refl _) | assumption | (with_reducible refine Ext.alloc ?_ _) | (with_reducible refine Ext.drew ?_) | (with_reducible refine Ext.drewL ?_) | refine Ext.trans ?_ (by assumption))), us, rs, g1, g1', c1, c1', hS6.ext (by (repeat (first | (with_reducible exact Ext.refl _) | assumption | (with_reducible refine Ext.alloc ?_ _) | (with_reducible refine Ext.drew ?_) | (with_reducible refine Ext.drewL ?_) | refine Ext.trans ?_ (by assumption))))⟩
                · have b1 : (rs[i] != 0) = true := by simpa using hr0
                  rw [sx_drop_yes hS5 hi32 (by rw [e1]; exact b1)]
                  rintro e w6 ⟨A6, c6, B6, d6, he, hA6, hB6, hE6⟩
                  rw [List.length_set, hS5.ul, List.length_set, hS5.rl] at he
                  rw [List.length_set, hS5.ul] at hA6
                  rw [List.length_set, hS5.rl] at hB6
                  subst he
                  obtain ⟨g6, rfl, hg6, _⟩ := own_form hA6 (by omega)
                  obtain ⟨g6', rfl, hg6', _⟩ := own_form hB6 (by omega)
                  have hS6 := hS5.ext hE6
                  have hca6 : w6.cell? ⟨w2.heap.size + 1, i, none⟩ = some (.int .u64 rs[i]) := by rw [hS6.k5.cell]; simp [words, hil]
                  have hl5 := hS6.k5.lt
                  have hl4 := hS6.k4.lt
                  have hc6 := hS6.k4.cell
                  have hf6 := hS6.k4.froz
                  have hfa := hS6.k5.froz
                  clear hr0 e1
                  generalize rs[i] = r at *
                  go_wp2
                  go_meet
                  refine ⟨?_, _, _, _, _, _, _, sx_put hS5 hi32 rfl hE6 hA6 hB6 hg6 hg6' _⟩
                  · refine Ext.alloc (Ext.setCell (Ext.setCell (Ext.setCell (hE5.trans hE6) ?_ _) ?_ _) ?_ _) _
                    · show w.heap.size ≤ w2.heap.size; omega
                    · show w.heap.size ≤ w2.heap.size; omega
                    · show w.heap.size ≤ w2.heap.size + 1; omega
            case rest =>
              obtain ⟨hE6, us, rs, g1, g1', c1, c1', hS6⟩ := hcut
              have hsz : (Try.prog.info? 33).map (·.size) = some (words rs).toArray.size := by
                have : (words rs).toArray.size = 32 := by simp [words, hS6.rl]
                rw [this]
                exact info33
              have hk5 := hS6.k5
              unfold Blk at hk5
              have Hk5 := Lib.hid hk5
              have Hsz := Lib.hid hsz
              clear hk5 hsz
              go_wp2_with (refine wpList_load_row rfl 33 _ rfl (w2.heap.size + 1) rfl 33 _ (0, 0) _ Hk5.out Try.underlying33 rfl Hsz.out ?_)
              go_loopw [98] (fun t wx => ∃ j : Nat, j ≤ 32 ∧ t = .int .i64 j ∧ Ext w wx ∧ Sx wx w.heap.size w2.heap.size (w2.heap.size + 1) us rs g1 g1' c1 c1') (fun t _ => 32 - (intOf t).toNat)
              case atStart => exact ⟨0, by omega, rfl, hE6, hS6⟩
              case round =>
                obtain ⟨j, hj, rfl, hE7, hS7⟩ := hrel
                clear hE6 hS6 Hk5 Hsz
                by_cases hj32 : j < 32
                · have dj : decide ((j : Int) < 32) = true := by simp; omega
                  have hjl : j < rs.length := by rw [hS7.rl]; exact hj32
                  have hix := fun W => index_words rs j hjl hS7.rl W
                  have hg := sx_get hS7 hj32
                  have e1 : rs.getD j 0 = rs[j] := by simp [List.getD_eq_getElem?_getD, hjl]
                  rw [e1] at hg
                  have hc4 := hS7.k4.cell
                  clear e1
                  generalize rs[j] = r at *
                  go_wp2_with fail
                  go_at_call 14
                  refine (get_any _ _ _ _ _ _ us rs _ _ (Rd.of_own hS7.ou) (Rd.of_own hS7.orr)).mono ?_
                  rw [hg]
                  clear hg
                  by_cases h0 : r = 0
                  · subst h0
                    simp only [bne_self_eq_false, Bool.false_eq_true, if_false]
                    rintro e w8 ⟨rfl, hE8⟩
                    go_wp2
                    go_roundw
                    case rel => exact ⟨j + 1, by omega, by go_num, by (repeat (first | (with_reducible exact Ext.refl _) | assumption | (with_reducible refine Ext.alloc ?_ _) | (with_reducible refine Ext.drew ?_) | (with_reducible refine Ext.drewL ?_) | refine Ext.trans ?_ (by assumption))), hS7.ext (by (repeat (first | (with_reducible exact Ext.refl _) | assumption | (with_reducible refine Ext.alloc ?_ _) | (with_reducible refine Ext.drew ?_) | (with_reducible refine Ext.drewL ?_) | refine Ext.trans ?_ (by assumption))))⟩
                    case measure => simp [intOf]; omega
                  · have b1 : (r != 0) = true := by simpa using h0
                    have b2 : (r == 0) = false := by simpa using h0
                    rw [if_pos b1]
                    clear h0
                    rintro e w8 ⟨rfl, hE8⟩
                    go_wp2
                    go_roundw
                    case rel => exact ⟨j + 1, by omega, by go_num, by (repeat (first | (with_reducible exact Ext.refl _) | assumption | (with_reducible refine Ext.alloc ?_ _) | (with_reducible refine Ext.drew ?_) | (with_reducible refine Ext.drewL ?_) | refine Ext.trans ?_ (by assumption))), hS7.ext (by (repeat (first | (with_reducible exact Ext.refl _) | assumption | (with_reducible refine Ext.alloc ?_ _) | (with_reducible refine Ext.drew ?_) | (with_reducible refine Ext.drewL ?_) | refine Ext.trans ?_ (by assumption))))⟩
                    case measure => simp [intOf]; omega
                · have dj : decide ((j : Int) < 32) = false := by simp; omega
                  go_wp2
                  go_roundw
                  case rel => exact ⟨k + 1, by omega, by go_num, hE7, us, rs, g1, g1', c1, c1', hS7⟩
                  case measure => simp [intOf]; omega
      · have hdk : decide ((k : Int) < 90) = false := by simp; omega
        go_wp2_with (first | (go_at_call 7; refine (awake_any _).mono ?_; rintro e w1 ⟨rfl, hEA⟩))
        go_ret
        exact ⟨rfl, by (repeat (first | (with_reducible exact Ext.refl _) | assumption | (with_reducible refine Ext.alloc ?_ _) | (with_reducible refine Ext.drew ?_) | (with_reducible refine Ext.drewL ?_) | refine Ext.trans ?_ (by assumption)))⟩
  · have hdec : decide ((n : Int) ≤ 400) = false := by simp; omega
    go_enter Try.func3, Try.ntmps3
    go_wp2_with (first | (go_at_call 6; refine (few_any _ _ _ _).mono ?_; rintro e w' ⟨rfl, rfl⟩) | (go_at_call 7; refine (awake_any _).mono ?_; rintro e w' ⟨rfl, hE⟩))
    go_ret
    exact ⟨rfl, hE⟩
end Go.Proofs.Ytgjgnokfmjeekaa
