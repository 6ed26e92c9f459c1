/- The walk of the law ArenaRanges. Conditions: the ranges that each theorem states. -/
import Derived.Test.YtodoeckikkeacaaG
namespace Go.Proofs.Ytodoeckikkeacaa
open Go.RowKit Go.Draw

theorem rcopy_is (A : Option Addr) (n c : Nat) (rs : List Int) (a b k : Int) (l : List Int) (er : Int) (w : World) (hr : Rd w A n 1 (words rs)) (hn : n ≤ 1000000) (h : copyA rs a b k = (l, er)) :
    Calls Try.prog 10 #[.slice A n c, .int .i64 a, .int .i64 b, .int .i64 k] w fun r w' => RetW w l er r w' := by
  have := rcopy_any A n c rs a b k w hr hn
  rwa [h] at this
theorem rfill_is (A : Option Addr) (n c : Nat) (rs : List Int) (a k v : Int) (l : List Int) (er : Int) (w : World) (hr : Rd w A n 1 (words rs)) (hn : n ≤ 1000000) (h : fillA rs a k v = (l, er)) :
    Calls Try.prog 12 #[.slice A n c, .int .i64 a, .int .i64 k, .int .u64 v] w fun r w' => RetW w l er r w' := by
  have := rfill_any A n c rs a k v w hr hn; rwa [h] at this

/-- three triples in block b -/
def Trip (w : World) (b : Nat) : Prop := ∀ k, k < 3 → ∃ (g : Nat) (x y z : Int), w.cell? ⟨b, k, none⟩ = some (.slice (some ⟨g, 0, none⟩) 3 3) ∧ Blk w g 3 #[.int .i64 x, .int .i64 y, .int .i64 z]
theorem Trip.ext {w w' : World} {b : Nat} (h : Trip w b) (he : Ext w w') : Trip w' b := fun k hk => by
  obtain ⟨g, x, y, z, h1, h2⟩ := h k hk
  exact ⟨g, x, y, z, cell_ext he h1, h2.ext he⟩
theorem trip_mk {w : World} {b g1 g2 g3 : Nat} {t : TypeId} {x1 y1 z1 x2 y2 z2 x3 y3 z3 : Int} (h : Blk w b t #[.slice (some ⟨g1, 0, none⟩) 3 3, .slice (some ⟨g2, 0, none⟩) 3 3, .slice (some ⟨g3, 0, none⟩) 3 3])
    (h1 : Blk w g1 3 #[.int .i64 x1, .int .i64 y1, .int .i64 z1]) (h2 : Blk w g2 3 #[.int .i64 x2, .int .i64 y2, .int .i64 z2]) (h3 : Blk w g3 3 #[.int .i64 x3, .int .i64 y3, .int .i64 z3]) : Trip w b
  | 0, _ => ⟨g1, x1, y1, z1, h.cell 0, h1⟩
  | 1, _ => ⟨g2, x2, y2, z2, h.cell 1, h2⟩
  | 2, _ => ⟨g3, x3, y3, z3, h.cell 2, h3⟩
  | k + 3, hk => absurd hk (by omega)

set_option maxRecDepth 100000 in
set_option maxHeartbeats 4000000 in
theorem ranges_any (A : Option Addr) (n c : Nat) (rs : List Int) (from_ to_ n0 v : Int) (w : World) (hr : Rd w A n 1 (words rs)) (hcp : n ≤ c) :
    Calls Try.prog 3 #[.slice A n c, .int .i64 from_, .int .i64 to_, .int .i64 n0, .int .u64 v] w fun r w' => r = .returned (.bool true) ∧ Ext w w' := by
  by_cases hn : n ≤ 600
  · have hd1 : decide ((600 : Int) < n) = false := by simp; omega
    have hd1' : decide (600 < n) = false := by simp; omega
    have hl : rs.length = n := by have := hr.1; simpa [words] using this
    have Hl := Lib.hid hl
    clear hl
    go_enter Try.func3, Try.ntmps3
    go_wp2_with (first | (go_at_call 8; refine (mod_any _ _ _ (by omega) (by omega)).mono ?_; rintro e w1 ⟨rfl, rfl⟩))
    go_loopw [61] (fun i wr => ∃ k : Nat, k ≤ 3 ∧ i = .int .i64 k ∧ Ext w wr ∧ Trip wr (w.heap.size + 1 + 1 + 1)) (fun i _ => 3 - (intOf i).toNat)
    case atStart => exact ⟨0, by omega, rfl, by (repeat (first | (with_reducible exact Ext.refl _) | assumption | (with_reducible refine Ext.alloc ?_ _) | (with_reducible refine Ext.drew ?_) | (with_reducible refine Ext.drewL ?_) | refine Ext.trans ?_ (by assumption))), trip_mk (g1 := w.heap.size) (g2 := w.heap.size + 1) (g3 := w.heap.size + 1 + 1) (t := 25) (Blk.new (by simp)) (Blk.alloc (Blk.alloc (Blk.alloc (Blk.new rfl) _) _) _) (Blk.alloc (Blk.alloc (Blk.new (by simp)) _) _) (Blk.alloc (Blk.new (by simp)) _)⟩
    case round =>
      obtain ⟨k, hk, rfl, hEr, hTr⟩ := hrel
      by_cases hk3 : k < 3
      · have dk : decide ((k : Int) < 3) = true := by simp; omega
        have dk' : decide (k < 3) = true := by simp; omega
        have hkI : (k : Int) < 3 := by omega
        obtain ⟨g, x, y, z, hcz, kg⟩ := hTr k hk3
        have hzb := cell_lt hcz
        obtain ⟨l1, er1, hm1⟩ : ∃ l er, copyA rs x y z = (l, er) := ⟨_, _, rfl⟩
        obtain ⟨l2, er2, hm2⟩ : ∃ l er, fillA rs x z v = (l, er) := ⟨_, _, rfl⟩
        have hll1 : l1.length ≤ 600 := by have := copyA_len rs x y z; rw [hm1] at this; simp only at this; have := Hl.out; omega
        have hll2 : l2.length ≤ 600 := by have := fillA_len rs x z v; rw [hm2] at this; simp only at this; have := Hl.out; omega
        have hne1 : (er1 != er1) = false := by simp
        have hne2 : (er2 != er2) = false := by simp
        have Hc := Lib.hid hm1
        have Hf := Lib.hid hm2
        clear hm1 hm2
        have cb := kg.cell
        have bb := kg.lt
        go_upto_region 7 with fail
        refine wp_region_ext [(true, 0), (true, 1), (true, 2), (true, 3), (true, 4), (true, 5), (true, 6), (true, 7), (true, 8), (true, 9), (false, 10), (true, 11), (true, 12), (true, 13), (true, 14), (true, 15)] Try.mixed (by kernel_rfl) (by simp only [pick, List.filterMap_cons, List.filterMap_nil, List.getElem?_toArray, List.getElem?_cons_succ, List.getElem?_cons_zero, Option.map_some]; rfl) ?_
        intro hx
        repeat (first
          | (refine wpL_take hx (v := ?_) (by rfl) (fun _ hc => ?_) ?_
             rotate_left
             focus (go_simp; (try go_ints); exact rfl)
             simp only [Act.put, List.setIfInBounds_toArray, List.set_cons_zero, List.set_cons_succ])
          | (refine wpL_skip (by rfl) ?_; simp only [Act.put, List.setIfInBounds_toArray, List.set_cons_zero, List.set_cons_succ])
          | (refine wpL_call (by rfl) (fun K hK => ?_); go_simp; go_at_call 9; refine (copy_is _ _ _ rs _ _ _ _ _ _ (hr.ext (by (repeat (first | (with_reducible exact Ext.refl _) | assumption | (with_reducible refine Ext.alloc ?_ _) | (with_reducible refine Ext.drew ?_) | (with_reducible refine Ext.drewL ?_) | refine Ext.trans ?_ (by assumption))))) (by omega) hcp Hc.out).mono ?_; rintro e w1 ⟨A1, c1, rfl, hA1, hE1⟩; have hX : Ext wr w1 := (by (repeat (first | (with_reducible exact Ext.refl _) | assumption | (with_reducible refine Ext.alloc ?_ _) | (with_reducible refine Ext.drew ?_) | (with_reducible refine Ext.drewL ?_) | refine Ext.trans ?_ (by assumption)))); have kb := kg.ext hX; have cb := kb.cell; have bb := kb.lt; refine hK _ _ (hE1) ?_; clear hK; intro hr; replace hx := hx.trans hr; clear hr; simp only [Act.put, List.setIfInBounds_toArray, List.set_cons_zero, List.set_cons_succ])
          | (refine wpL_call (by rfl) (fun K hK => ?_); go_simp; go_at_call 10; refine (rcopy_is _ _ _ rs _ _ _ _ _ _ (hr.ext (by (repeat (first | (with_reducible exact Ext.refl _) | assumption | (with_reducible refine Ext.alloc ?_ _) | (with_reducible refine Ext.drew ?_) | (with_reducible refine Ext.drewL ?_) | refine Ext.trans ?_ (by assumption))))) (by omega) Hc.out).mono ?_; rintro e w1 ⟨A2, c2, rfl, hA2, hE2⟩; have hX : Ext wr w1 := (by (repeat (first | (with_reducible exact Ext.refl _) | assumption | (with_reducible refine Ext.alloc ?_ _) | (with_reducible refine Ext.drew ?_) | (with_reducible refine Ext.drewL ?_) | refine Ext.trans ?_ (by assumption)))); have kb := kg.ext hX; have cb := kb.cell; have bb := kb.lt; refine hK _ _ (hE2) ?_; clear hK; intro hr; replace hx := hx.trans hr; clear hr; simp only [Act.put, List.setIfInBounds_toArray, List.set_cons_zero, List.set_cons_succ])
          | (refine wpL_call (by rfl) (fun K hK => ?_); go_simp; go_at_call 11; refine (fill_is _ _ _ rs _ _ _ _ _ _ (hr.ext (by (repeat (first | (with_reducible exact Ext.refl _) | assumption | (with_reducible refine Ext.alloc ?_ _) | (with_reducible refine Ext.drew ?_) | (with_reducible refine Ext.drewL ?_) | refine Ext.trans ?_ (by assumption))))) (by omega) hcp Hf.out).mono ?_; rintro e w1 ⟨A3, c3, rfl, hA3, hE3⟩; have hX : Ext wr w1 := (by (repeat (first | (with_reducible exact Ext.refl _) | assumption | (with_reducible refine Ext.alloc ?_ _) | (with_reducible refine Ext.drew ?_) | (with_reducible refine Ext.drewL ?_) | refine Ext.trans ?_ (by assumption)))); have kb := kg.ext hX; have cb := kb.cell; have bb := kb.lt; refine hK _ _ (hE3) ?_; clear hK; intro hr; replace hx := hx.trans hr; clear hr; simp only [Act.put, List.setIfInBounds_toArray, List.set_cons_zero, List.set_cons_succ])
          | (refine wpL_call (by rfl) (fun K hK => ?_); go_simp; go_at_call 12; refine (rfill_is _ _ _ rs _ _ _ _ _ _ (hr.ext (by (repeat (first | (with_reducible exact Ext.refl _) | assumption | (with_reducible refine Ext.alloc ?_ _) | (with_reducible refine Ext.drew ?_) | (with_reducible refine Ext.drewL ?_) | refine Ext.trans ?_ (by assumption))))) (by omega) Hf.out).mono ?_; rintro e w1 ⟨A4, c4, rfl, hA4, hE4⟩; refine hK _ _ (hE4) ?_; clear hK; intro hr; replace hx := hx.trans hr; clear hr; simp only [Act.put, List.setIfInBounds_toArray, List.set_cons_zero, List.set_cons_succ])
          | (refine wpL_call (by rfl) (fun K hK => ?_); go_simp; (first | (refine hK _ _ ?_ ?_; (focus ((repeat (first | (with_reducible exact Ext.refl _) | assumption | (with_reducible refine Ext.alloc ?_ _) | (with_reducible refine Ext.drew ?_) | (with_reducible refine Ext.drewL ?_) | refine Ext.trans ?_ (by assumption))); done))) | (refine hK undef _ ?_ ?_; (focus ((repeat (first | (with_reducible exact Ext.refl _) | assumption | (with_reducible refine Ext.alloc ?_ _) | (with_reducible refine Ext.drew ?_) | (with_reducible refine Ext.drewL ?_) | refine Ext.trans ?_ (by assumption))); done)))); clear hK; intro hr; replace hx := hx.trans hr; clear hr; try simp only [Act.put, List.setIfInBounds_toArray, List.set_cons_zero, List.set_cons_succ]))
        refine wpL_end ?_
        go_wp2_with fail
        refine wp_region_ext [(true, 0), (true, 1), (true, 2), (true, 3), (true, 4), (true, 5), (true, 6), (true, 7), (true, 8), (true, 9), (false, 10), (true, 11), (true, 12), (true, 13), (true, 14), (true, 15)] Try.mixed (by kernel_rfl) (by simp only [pick, List.filterMap_cons, List.filterMap_nil, List.getElem?_toArray, List.getElem?_cons_succ, List.getElem?_cons_zero, Option.map_some]; rfl) ?_
        intro hx
        repeat (first
          | (refine wpL_take hx (v := ?_) (by rfl) (fun _ hc => ?_) ?_
             rotate_left
             focus (go_simp; (try go_ints); exact rfl)
             simp only [Act.put, List.setIfInBounds_toArray, List.set_cons_zero, List.set_cons_succ])
          | (refine wpL_skip (by rfl) ?_; simp only [Act.put, List.setIfInBounds_toArray, List.set_cons_zero, List.set_cons_succ])
          | (refine wpL_call (by rfl) (fun K hK => ?_); go_simp; go_at_call 9; refine (copy_is _ _ _ rs _ _ _ _ _ _ (hr.ext (by (repeat (first | (with_reducible exact Ext.refl _) | assumption | (with_reducible refine Ext.alloc ?_ _) | (with_reducible refine Ext.drew ?_) | (with_reducible refine Ext.drewL ?_) | refine Ext.trans ?_ (by assumption))))) (by omega) hcp Hc.out).mono ?_; rintro e w1 ⟨A1, c1, rfl, hA1, hE1⟩; have hX : Ext wr w1 := (by (repeat (first | (with_reducible exact Ext.refl _) | assumption | (with_reducible refine Ext.alloc ?_ _) | (with_reducible refine Ext.drew ?_) | (with_reducible refine Ext.drewL ?_) | refine Ext.trans ?_ (by assumption)))); have kb := kg.ext hX; have cb := kb.cell; have bb := kb.lt; refine hK _ _ (hE1) ?_; clear hK; intro hr; replace hx := hx.trans hr; clear hr; simp only [Act.put, List.setIfInBounds_toArray, List.set_cons_zero, List.set_cons_succ])
          | (refine wpL_call (by rfl) (fun K hK => ?_); go_simp; go_at_call 10; refine (rcopy_is _ _ _ rs _ _ _ _ _ _ (hr.ext (by (repeat (first | (with_reducible exact Ext.refl _) | assumption | (with_reducible refine Ext.alloc ?_ _) | (with_reducible refine Ext.drew ?_) | (with_reducible refine Ext.drewL ?_) | refine Ext.trans ?_ (by assumption))))) (by omega) Hc.out).mono ?_; rintro e w1 ⟨A2, c2, rfl, hA2, hE2⟩; have hX : Ext wr w1 := (by (repeat (first | (with_reducible exact Ext.refl _) | assumption | (with_reducible refine Ext.alloc ?_ _) | (with_reducible refine Ext.drew ?_) | (with_reducible refine Ext.drewL ?_) | refine Ext.trans ?_ (by assumption)))); have kb := kg.ext hX; have cb := kb.cell; have bb := kb.lt; refine hK _ _ (hE2) ?_; clear hK; intro hr; replace hx := hx.trans hr; clear hr; simp only [Act.put, List.setIfInBounds_toArray, List.set_cons_zero, List.set_cons_succ])
          | (refine wpL_call (by rfl) (fun K hK => ?_); go_simp; go_at_call 11; refine (fill_is _ _ _ rs _ _ _ _ _ _ (hr.ext (by (repeat (first | (with_reducible exact Ext.refl _) | assumption | (with_reducible refine Ext.alloc ?_ _) | (with_reducible refine Ext.drew ?_) | (with_reducible refine Ext.drewL ?_) | refine Ext.trans ?_ (by assumption))))) (by omega) hcp Hf.out).mono ?_; rintro e w1 ⟨A3, c3, rfl, hA3, hE3⟩; have hX : Ext wr w1 := (by (repeat (first | (with_reducible exact Ext.refl _) | assumption | (with_reducible refine Ext.alloc ?_ _) | (with_reducible refine Ext.drew ?_) | (with_reducible refine Ext.drewL ?_) | refine Ext.trans ?_ (by assumption)))); have kb := kg.ext hX; have cb := kb.cell; have bb := kb.lt; refine hK _ _ (hE3) ?_; clear hK; intro hr; replace hx := hx.trans hr; clear hr; simp only [Act.put, List.setIfInBounds_toArray, List.set_cons_zero, List.set_cons_succ])
          | (refine wpL_call (by rfl) (fun K hK => ?_); go_simp; go_at_call 12; refine (rfill_is _ _ _ rs _ _ _ _ _ _ (hr.ext (by (repeat (first | (with_reducible exact Ext.refl _) | assumption | (with_reducible refine Ext.alloc ?_ _) | (with_reducible refine Ext.drew ?_) | (with_reducible refine Ext.drewL ?_) | refine Ext.trans ?_ (by assumption))))) (by omega) Hf.out).mono ?_; rintro e w1 ⟨A4, c4, rfl, hA4, hE4⟩; refine hK _ _ (hE4) ?_; clear hK; intro hr; replace hx := hx.trans hr; clear hr; simp only [Act.put, List.setIfInBounds_toArray, List.set_cons_zero, List.set_cons_succ])
          | (refine wpL_call (by rfl) (fun K hK => ?_); go_simp; (first | (refine hK _ _ ?_ ?_; (focus ((repeat (first | (with_reducible exact Ext.refl _) | assumption | (with_reducible refine Ext.alloc ?_ _) | (with_reducible refine Ext.drew ?_) | (with_reducible refine Ext.drewL ?_) | refine Ext.trans ?_ (by assumption))); done))) | (refine hK undef _ ?_ ?_; (focus ((repeat (first | (with_reducible exact Ext.refl _) | assumption | (with_reducible refine Ext.alloc ?_ _) | (with_reducible refine Ext.drew ?_) | (with_reducible refine Ext.drewL ?_) | refine Ext.trans ?_ (by assumption))); done)))); clear hK; intro hr; replace hx := hx.trans hr; clear hr; try simp only [Act.put, List.setIfInBounds_toArray, List.set_cons_zero, List.set_cons_succ]))
        refine wpL_end ?_
        go_wp2_with fail
        refine wp_region_ext [(true, 0), (true, 1), (true, 2), (true, 3), (true, 4), (true, 5), (true, 6), (true, 7), (false, 8), (true, 9), (true, 10), (true, 11), (true, 12), (true, 13)] Try.mixed (by kernel_rfl) (by simp only [pick, List.filterMap_cons, List.filterMap_nil, List.getElem?_toArray, List.getElem?_cons_succ, List.getElem?_cons_zero, Option.map_some]; rfl) ?_
        intro hx
        repeat (first
          | (refine wpL_take hx (v := ?_) (by rfl) (fun _ hc => ?_) ?_
             rotate_left
             focus (go_simp; (try go_ints); exact rfl)
             simp only [Act.put, List.setIfInBounds_toArray, List.set_cons_zero, List.set_cons_succ])
          | (refine wpL_skip (by rfl) ?_; simp only [Act.put, List.setIfInBounds_toArray, List.set_cons_zero, List.set_cons_succ])
          | (refine wpL_call (by rfl) (fun K hK => ?_); go_simp; go_at_call 9; refine (copy_is _ _ _ rs _ _ _ _ _ _ (hr.ext (by (repeat (first | (with_reducible exact Ext.refl _) | assumption | (with_reducible refine Ext.alloc ?_ _) | (with_reducible refine Ext.drew ?_) | (with_reducible refine Ext.drewL ?_) | refine Ext.trans ?_ (by assumption))))) (by omega) hcp Hc.out).mono ?_; rintro e w1 ⟨A1, c1, rfl, hA1, hE1⟩; have hX : Ext wr w1 := (by (repeat (first | (with_reducible exact Ext.refl _) | assumption | (with_reducible refine Ext.alloc ?_ _) | (with_reducible refine Ext.drew ?_) | (with_reducible refine Ext.drewL ?_) | refine Ext.trans ?_ (by assumption)))); have kb := kg.ext hX; have cb := kb.cell; have bb := kb.lt; refine hK _ _ (hE1) ?_; clear hK; intro hr; replace hx := hx.trans hr; clear hr; simp only [Act.put, List.setIfInBounds_toArray, List.set_cons_zero, List.set_cons_succ])
          | (refine wpL_call (by rfl) (fun K hK => ?_); go_simp; go_at_call 10; refine (rcopy_is _ _ _ rs _ _ _ _ _ _ (hr.ext (by (repeat (first | (with_reducible exact Ext.refl _) | assumption | (with_reducible refine Ext.alloc ?_ _) | (with_reducible refine Ext.drew ?_) | (with_reducible refine Ext.drewL ?_) | refine Ext.trans ?_ (by assumption))))) (by omega) Hc.out).mono ?_; rintro e w1 ⟨A2, c2, rfl, hA2, hE2⟩; have hX : Ext wr w1 := (by (repeat (first | (with_reducible exact Ext.refl _) | assumption | (with_reducible refine Ext.alloc ?_ _) | (with_reducible refine Ext.drew ?_) | (with_reducible refine Ext.drewL ?_) | refine Ext.trans ?_ (by assumption)))); have kb := kg.ext hX; have cb := kb.cell; have bb := kb.lt; refine hK _ _ (hE2) ?_; clear hK; intro hr; replace hx := hx.trans hr; clear hr; simp only [Act.put, List.setIfInBounds_toArray, List.set_cons_zero, List.set_cons_succ])
          | (refine wpL_call (by rfl) (fun K hK => ?_); go_simp; go_at_call 11; refine (fill_is _ _ _ rs _ _ _ _ _ _ (hr.ext (by (repeat (first | (with_reducible exact Ext.refl _) | assumption | (with_reducible refine Ext.alloc ?_ _) | (with_reducible refine Ext.drew ?_) | (with_reducible refine Ext.drewL ?_) | refine Ext.trans ?_ (by assumption))))) (by omega) hcp Hf.out).mono ?_; rintro e w1 ⟨A3, c3, rfl, hA3, hE3⟩; have hX : Ext wr w1 := (by (repeat (first | (with_reducible exact Ext.refl _) | assumption | (with_reducible refine Ext.alloc ?_ _) | (with_reducible refine Ext.drew ?_) | (with_reducible refine Ext.drewL ?_) | refine Ext.trans ?_ (by assumption)))); have kb := kg.ext hX; have cb := kb.cell; have bb := kb.lt; refine hK _ _ (hE3) ?_; clear hK; intro hr; replace hx := hx.trans hr; clear hr; simp only [Act.put, List.setIfInBounds_toArray, List.set_cons_zero, List.set_cons_succ])
          | (refine wpL_call (by rfl) (fun K hK => ?_); go_simp; go_at_call 12; refine (rfill_is _ _ _ rs _ _ _ _ _ _ (hr.ext (by (repeat (first | (with_reducible exact Ext.refl _) | assumption | (with_reducible refine Ext.alloc ?_ _) | (with_reducible refine Ext.drew ?_) | (with_reducible refine Ext.drewL ?_) | refine Ext.trans ?_ (by assumption))))) (by omega) Hf.out).mono ?_; rintro e w1 ⟨A4, c4, rfl, hA4, hE4⟩; refine hK _ _ (hE4) ?_; clear hK; intro hr; replace hx := hx.trans hr; clear hr; simp only [Act.put, List.setIfInBounds_toArray, List.set_cons_zero, List.set_cons_succ])
          | (refine wpL_call (by rfl) (fun K hK => ?_); go_simp; (first | (refine hK _ _ ?_ ?_; (focus ((repeat (first | (with_reducible exact Ext.refl _) | assumption | (with_reducible refine Ext.alloc ?_ _) | (with_reducible refine Ext.drew ?_) | (with_reducible refine Ext.drewL ?_) | refine Ext.trans ?_ (by assumption))); done))) | (refine hK undef _ ?_ ?_; (focus ((repeat (first | (with_reducible exact Ext.refl _) | assumption | (with_reducible refine Ext.alloc ?_ _) | (with_reducible refine Ext.drew ?_) | (with_reducible refine Ext.drewL ?_) | refine Ext.trans ?_ (by assumption))); done)))); clear hK; intro hr; replace hx := hx.trans hr; clear hr; try simp only [Act.put, List.setIfInBounds_toArray, List.set_cons_zero, List.set_cons_succ]))
        refine wpL_end ?_
        go_wp2_with fail
        refine wp_region_ext [(true, 0), (true, 1), (true, 2), (true, 3), (true, 4), (true, 5), (true, 6), (true, 7), (false, 8), (true, 9), (true, 10), (true, 11), (true, 12), (true, 13)] Try.mixed (by kernel_rfl) (by simp only [pick, List.filterMap_cons, List.filterMap_nil, List.getElem?_toArray, List.getElem?_cons_succ, List.getElem?_cons_zero, Option.map_some]; rfl) ?_
        intro hx
        repeat (first
          | (refine wpL_take hx (v := ?_) (by rfl) (fun _ hc => ?_) ?_
             rotate_left
             focus (go_simp; (try go_ints); exact rfl)
             simp only [Act.put, List.setIfInBounds_toArray, List.set_cons_zero, List.set_cons_succ])
          | (refine wpL_skip (by rfl) ?_; simp only [Act.put, List.setIfInBounds_toArray, List.set_cons_zero, List.set_cons_succ])
          | (refine wpL_call (by rfl) (fun K hK => ?_); go_simp; go_at_call 9; refine (copy_is _ _ _ rs _ _ _ _ _ _ (hr.ext (by (repeat (first | (with_reducible exact Ext.refl _) | assumption | (with_reducible refine Ext.alloc ?_ _) | (with_reducible refine Ext.drew ?_) | (with_reducible refine Ext.drewL ?_) | refine Ext.trans ?_ (by assumption))))) (by omega) hcp Hc.out).mono ?_; rintro e w1 ⟨A1, c1, rfl, hA1, hE1⟩; have hX : Ext wr w1 := (by (repeat (first | (with_reducible exact Ext.refl _) | assumption | (with_reducible refine Ext.alloc ?_ _) | (with_reducible refine Ext.drew ?_) | (with_reducible refine Ext.drewL ?_) | refine Ext.trans ?_ (by assumption)))); have kb := kg.ext hX; have cb := kb.cell; have bb := kb.lt; refine hK _ _ (hE1) ?_; clear hK; intro hr; replace hx := hx.trans hr; clear hr; simp only [Act.put, List.setIfInBounds_toArray, List.set_cons_zero, List.set_cons_succ])
          | (refine wpL_call (by rfl) (fun K hK => ?_); go_simp; go_at_call 10; refine (rcopy_is _ _ _ rs _ _ _ _ _ _ (hr.ext (by (repeat (first | (with_reducible exact Ext.refl _) | assumption | (with_reducible refine Ext.alloc ?_ _) | (with_reducible refine Ext.drew ?_) | (with_reducible refine Ext.drewL ?_) | refine Ext.trans ?_ (by assumption))))) (by omega) Hc.out).mono ?_; rintro e w1 ⟨A2, c2, rfl, hA2, hE2⟩; have hX : Ext wr w1 := (by (repeat (first | (with_reducible exact Ext.refl _) | assumption | (with_reducible refine Ext.alloc ?_ _) | (with_reducible refine Ext.drew ?_) | (with_reducible refine Ext.drewL ?_) | refine Ext.trans ?_ (by assumption)))); have kb := kg.ext hX; have cb := kb.cell; have bb := kb.lt; refine hK _ _ (hE2) ?_; clear hK; intro hr; replace hx := hx.trans hr; clear hr; simp only [Act.put, List.setIfInBounds_toArray, List.set_cons_zero, List.set_cons_succ])
          | (refine wpL_call (by rfl) (fun K hK => ?_); go_simp; go_at_call 11; refine (fill_is _ _ _ rs _ _ _ _ _ _ (hr.ext (by (repeat (first | (with_reducible exact Ext.refl _) | assumption | (with_reducible refine Ext.alloc ?_ _) | (with_reducible refine Ext.drew ?_) | (with_reducible refine Ext.drewL ?_) | refine Ext.trans ?_ (by assumption))))) (by omega) hcp Hf.out).mono ?_; rintro e w1 ⟨A3, c3, rfl, hA3, hE3⟩; have hX : Ext wr w1 := (by (repeat (first | (with_reducible exact Ext.refl _) | assumption | (with_reducible refine Ext.alloc ?_ _) | (with_reducible refine Ext.drew ?_) | (with_reducible refine Ext.drewL ?_) | refine Ext.trans ?_ (by assumption)))); have kb := kg.ext hX; have cb := kb.cell; have bb := kb.lt; refine hK _ _ (hE3) ?_; clear hK; intro hr; replace hx := hx.trans hr; clear hr; simp only [Act.put, List.setIfInBounds_toArray, List.set_cons_zero, List.set_cons_succ])
          | (refine wpL_call (by rfl) (fun K hK => ?_); go_simp; go_at_call 12; refine (rfill_is _ _ _ rs _ _ _ _ _ _ (hr.ext (by (repeat (first | (with_reducible exact Ext.refl _) | assumption | (with_reducible refine Ext.alloc ?_ _) | (with_reducible refine Ext.drew ?_) | (with_reducible refine Ext.drewL ?_) | refine Ext.trans ?_ (by assumption))))) (by omega) Hf.out).mono ?_; rintro e w1 ⟨A4, c4, rfl, hA4, hE4⟩; refine hK _ _ (hE4) ?_; clear hK; intro hr; replace hx := hx.trans hr; clear hr; simp only [Act.put, List.setIfInBounds_toArray, List.set_cons_zero, List.set_cons_succ])
          | (refine wpL_call (by rfl) (fun K hK => ?_); go_simp; (first | (refine hK _ _ ?_ ?_; (focus ((repeat (first | (with_reducible exact Ext.refl _) | assumption | (with_reducible refine Ext.alloc ?_ _) | (with_reducible refine Ext.drew ?_) | (with_reducible refine Ext.drewL ?_) | refine Ext.trans ?_ (by assumption))); done))) | (refine hK undef _ ?_ ?_; (focus ((repeat (first | (with_reducible exact Ext.refl _) | assumption | (with_reducible refine Ext.alloc ?_ _) | (with_reducible refine Ext.drew ?_) | (with_reducible refine Ext.drewL ?_) | refine Ext.trans ?_ (by assumption))); done)))); clear hK; intro hr; replace hx := hx.trans hr; clear hr; try simp only [Act.put, List.setIfInBounds_toArray, List.set_cons_zero, List.set_cons_succ]))
        refine wpL_end ?_
        go_wp2_with fail
        go_at_call 13
        refine (same_self _ _ _ _ _ _ l1 _ ((Rd.of_own hA1).ext (by (repeat (first | (with_reducible exact Ext.refl _) | assumption | (with_reducible refine Ext.alloc ?_ _) | (with_reducible refine Ext.drew ?_) | (with_reducible refine Ext.drewL ?_) | refine Ext.trans ?_ (by assumption))))) ((Rd.of_own hA2).ext (by (repeat (first | (with_reducible exact Ext.refl _) | assumption | (with_reducible refine Ext.alloc ?_ _) | (with_reducible refine Ext.drew ?_) | (with_reducible refine Ext.drewL ?_) | refine Ext.trans ?_ (by assumption))))) (by omega) (by omega)).mono ?_
        rintro e w1 ⟨rfl, hE5⟩
        go_wp2_with fail
        go_at_call 13
        refine (same_self _ _ _ _ _ _ l2 _ ((Rd.of_own hA3).ext (by (repeat (first | (with_reducible exact Ext.refl _) | assumption | (with_reducible refine Ext.alloc ?_ _) | (with_reducible refine Ext.drew ?_) | (with_reducible refine Ext.drewL ?_) | refine Ext.trans ?_ (by assumption))))) ((Rd.of_own hA4).ext (by (repeat (first | (with_reducible exact Ext.refl _) | assumption | (with_reducible refine Ext.alloc ?_ _) | (with_reducible refine Ext.drew ?_) | (with_reducible refine Ext.drewL ?_) | refine Ext.trans ?_ (by assumption))))) (by omega) (by omega)).mono ?_
        rintro e w1 ⟨rfl, hE6⟩
        go_wp2_with fail
        have hX : Ext wr w1 := by (repeat (first | (with_reducible exact Ext.refl _) | assumption | (with_reducible refine Ext.alloc ?_ _) | (with_reducible refine Ext.drew ?_) | (with_reducible refine Ext.drewL ?_) | refine Ext.trans ?_ (by assumption)))
        go_roundw
        case rel => exact ⟨k + 1, by omega, by go_num, by (repeat (first | (with_reducible exact Ext.refl _) | assumption | (with_reducible refine Ext.alloc ?_ _) | (with_reducible refine Ext.drew ?_) | (with_reducible refine Ext.drewL ?_) | refine Ext.trans ?_ (by assumption))), hTr.ext hX⟩
        case measure => simp [intOf]; omega
      · have dk : decide ((k : Int) < 3) = false := by simp; omega
        have dk' : decide (k < 3) = false := by simp; omega
        go_wp2_with (first | (go_at_call 7; refine (awake_any _).mono ?_; rintro e w1 ⟨rfl, hE7⟩))
        go_ret
        exact ⟨rfl, by (repeat (first | (with_reducible exact Ext.refl _) | assumption | (with_reducible refine Ext.alloc ?_ _) | (with_reducible refine Ext.drew ?_) | (with_reducible refine Ext.drewL ?_) | refine Ext.trans ?_ (by assumption)))⟩
  · have hd1 : decide ((600 : Int) < n) = true := by simp; omega
    have hd1' : decide (600 < n) = true := by simp; omega
    clear hr hn
    go_enter Try.func3, Try.ntmps3
    go_wp2_with (first | (go_at_call 7; refine (awake_any _).mono ?_; rintro e w1 ⟨rfl, hE7⟩))
    go_ret
    exact ⟨rfl, by (repeat (first | (with_reducible exact Ext.refl _) | assumption | (with_reducible refine Ext.alloc ?_ _) | (with_reducible refine Ext.drew ?_) | (with_reducible refine Ext.drewL ?_) | refine Ext.trans ?_ (by assumption)))⟩
end Go.Proofs.Ytodoeckikkeacaa
