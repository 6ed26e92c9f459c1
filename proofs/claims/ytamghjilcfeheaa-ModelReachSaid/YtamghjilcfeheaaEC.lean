/- The law ModelReach, walked. Condition: none beyond the sizes of the slices. -/
import Derived.Test.YtamghjilcfeheaaAB
import Derived.Test.YtamghjilcfeheaaEA
import Derived.Test.YtamghjilcfeheaaCL
namespace Go.Proofs.Ytamghjilcfeheaa
open Go.RowKit Go.Draw

theorem bel_of {S : List Nat} {w w' : World} {N : Nat} (h : But S w w') (hS : ∀ x ∈ S, N ≤ x) : Bel N [] w w' := ⟨h.os, h.tape, h.output, h.size, fun hN k hk _ => h.block k (by omega) (fun hm => by have := hS k hm; omega)⟩
/-- two graphs in a row, neither of them large -/
def Duo (w : World) (b : Nat) : Prop := ∀ k, k < 2 → ∃ (A B C : Option Addr) (a b' c : Nat) (g : Gr), w.cell? ⟨b, k * 3, none⟩ = some (.slice A g.ns.length a) ∧ w.cell? ⟨b, k * 3 + 1, none⟩ = some (.slice B g.us.length b') ∧ w.cell? ⟨b, k * 3 + 2, none⟩ = some (.slice C g.rs.length c) ∧ GRd w (.agg #[.slice A g.ns.length a, .slice B g.us.length b', .slice C g.rs.length c]) g ∧ g.ns.length ≤ 1000 ∧ g.us.length ≤ 1000 ∧ g.rs.length ≤ 1000
theorem Duo.ext {w w' : World} {b : Nat} (h : Duo w b) (he : Ext w w') : Duo w' b := by
  intro k hk
  obtain ⟨A, B, C, a, b', c, g, h1, h2, h3, h4, h5⟩ := h k hk
  exact ⟨A, B, C, a, b', c, g, cell_ext he h1, cell_ext he h2, cell_ext he h3, h4.ext he, h5⟩
theorem duo_mk {w : World} {b : Nat} {A B C A2 B2 C2 : Option Addr} {x y z x2 y2 z2 : Nat} {g g2 : Gr} (h : Blk w b 26 #[.slice A g.ns.length x, .slice B g.us.length y, .slice C g.rs.length z, .slice A2 g2.ns.length x2, .slice B2 g2.us.length y2, .slice C2 g2.rs.length z2])
    (h1 : GRd w (.agg #[.slice A g.ns.length x, .slice B g.us.length y, .slice C g.rs.length z]) g) (h2 : GRd w (.agg #[.slice A2 g2.ns.length x2, .slice B2 g2.us.length y2, .slice C2 g2.rs.length z2]) g2)
    (k1 : g.ns.length ≤ 1000 ∧ g.us.length ≤ 1000 ∧ g.rs.length ≤ 1000) (k2 : g2.ns.length ≤ 1000 ∧ g2.us.length ≤ 1000 ∧ g2.rs.length ≤ 1000) : Duo w b := by
  intro k hk
  rcases Nat.lt_or_ge k 1 with hk0 | hk0
  · have : k = 0 := by omega
    subst this
    exact ⟨A, B, C, x, y, z, g, by rw [h.cell]; rfl, by rw [h.cell]; rfl, by rw [h.cell]; rfl, h1, k1⟩
  · have : k = 1 := by omega
    subst this
    exact ⟨A2, B2, C2, x2, y2, z2, g2, by rw [h.cell]; rfl, by rw [h.cell]; rfl, by rw [h.cell]; rfl, h2, k2⟩
theorem valid_of {gg : Gr} {b : Bool} (hb : vldB gg = b) (v : Value) (w : World) (hg : GRd w v gg) (hbb : gg.ns.length ≤ 1000 ∧ gg.us.length ≤ 1000 ∧ gg.rs.length ≤ 1000) : Calls Try.prog 14 #[v] w fun r w' => r = .returned (.bool b) ∧ Ext w w' := by
  subst hb
  exact valid14_raw v gg w hg hbb
set_option maxRecDepth 100000 in
set_option maxHeartbeats 2000000 in
theorem reach_any (v : Value) (g : Gr) (A : Option Addr) (n c : Nat) (zs : List Int) (w : World) (hg : GRd w v g) (hgn : g.ns.length ≤ 9223372036854775807) (hz : Rd w A n 1 (ints zs)) (hn : n ≤ 9223372036854775807) :
    Calls Try.prog 4 #[v, .slice A n c] w fun r w' => r = .returned (.bool true) ∧ Ext w w' := by
  obtain ⟨A0, a0, B0, b0, C0, c0, rfl⟩ := hg.sl
  go_enter Try.func4, Try.ntmps4
  have hX := Ext.alloc (Ext.refl w) (.cells #[.slice A0 g.ns.length a0, .slice B0 g.us.length b0, .slice C0 g.rs.length c0] 26)
  have k2 : Blk (w.alloc (.cells #[.slice A0 g.ns.length a0, .slice B0 g.us.length b0, .slice C0 g.rs.length c0] 26)) w.heap.size 26 #[.slice A0 g.ns.length a0, .slice B0 g.us.length b0, .slice C0 g.rs.length c0] := Blk.new rfl
  go_upto_region 3 with (first | (go_at_call 12; refine (light12_any _ g _ (hg.ext (by (repeat (first | (with_reducible exact Ext.refl _) | assumption | (with_reducible refine Ext.alloc ?_ _) | (with_reducible refine Ext.drew ?_) | (with_reducible refine Ext.drewL ?_) | refine Ext.trans ?_ (by assumption))))) hgn).mono ?_; rintro e w1 ⟨b, rfl, hbl, hE0⟩; cases b))
  · go_wp2_with (go_at_call 13; refine (awake_any _).mono ?_; rintro e w2 ⟨rfl, hE2⟩)
    go_ret
    exact ⟨rfl, hX.trans (hE0.trans hE2)⟩
  · obtain ⟨gn, gu, gr⟩ := by simpa using hbl
    obtain ⟨W, hW⟩ : ∃ W, W = w1 := ⟨_, rfl⟩
    subst hW
    have hEW : Ext w W := hX.trans hE0
    replace hg := hg.ext hEW
    replace hz := hz.ext hEW
    replace k2 := k2.ext hE0
    have c2' := k2.cell
    have l2 := k2.lt
    clear hX hE0 hbl hgn
    refine wp_region_treeN (W.heap.size) [] (.take 0 (.take 1 (.take 6 (.alt 2 (.alt 3 (.alt 4 (.take 5 .done) .none) .none) .none)))) Try.mixed (by kernel_rfl) ?_
    intro hx
    first
      | (refine wpT_takeN hx (by simp) (v := ?_) (List.getElem?_toArray.trans (by rfl)) (by rfl) (fun _ hc => ?_) ?_
         rotate_left
         focus (go_simp; (try go_ints); exact rfl)
         simp only [Act.put, List.setIfInBounds_toArray, List.set_cons_zero, List.set_cons_succ])
      | (refine wpT_skip (List.getElem?_toArray.trans (by rfl)) (by rfl) ?_; simp only [Act.put, List.setIfInBounds_toArray, List.set_cons_zero, List.set_cons_succ])
    first
      | (refine wpT_takeN hx (by simp) (v := ?_) (List.getElem?_toArray.trans (by rfl)) (by rfl) (fun _ hc => ?_) ?_
         rotate_left
         focus (go_simp; (try go_ints); exact rfl)
         simp only [Act.put, List.setIfInBounds_toArray, List.set_cons_zero, List.set_cons_succ])
      | (refine wpT_skip (List.getElem?_toArray.trans (by rfl)) (by rfl) ?_; simp only [Act.put, List.setIfInBounds_toArray, List.set_cons_zero, List.set_cons_succ])
    first
      | (refine wpT_takeN hx (by simp) (v := ?_) (List.getElem?_toArray.trans (by rfl)) (by rfl) (fun _ hc => ?_) ?_
         rotate_left
         focus (go_simp; (try go_ints); exact rfl)
         simp only [Act.put, List.setIfInBounds_toArray, List.set_cons_zero, List.set_cons_succ])
      | (refine wpT_skip (List.getElem?_toArray.trans (by rfl)) (by rfl) ?_; simp only [Act.put, List.setIfInBounds_toArray, List.set_cons_zero, List.set_cons_succ])
    refine wpT_call (List.getElem?_toArray.trans (by rfl)) (by rfl) (fun K hK => ?_) ?_
    · skip
      go_simp
      go_at_call 9
      refine (deck_any A n c zs _ (hz.ext (ext_bel hx)) hn).mono ?_
      rintro e w1 ⟨rfl, hDk, hE1⟩; have hz1 := hDk.lt; have hzs := hE1.size_le
      refine hK _ _ ((hE1).bel _) ?_
      clear hK
      intro hr
      replace hx := hx.trans hr
      clear hr
      try simp only [Act.put, List.setIfInBounds_toArray, List.set_cons_zero, List.set_cons_succ]
      refine wpT_call (List.getElem?_toArray.trans (by rfl)) (by rfl) (fun K hK => ?_) ?_
      · skip
        go_simp
        go_at_call 8
        refine (graph8_any _ _ (S := [_]) (fun x hx => by have := List.mem_singleton.1 hx; subst this; exact hz1) (by simp) hDk).mono ?_
        rintro e w1 ⟨v2, g2, rfl, hg2, hv2, hl50, hD2, hB2⟩; (obtain ⟨A2, a2, B2, b2, C2, c2, rfl⟩ := hg2.sl)
        refine hK _ _ ((bel_of hB2 (fun x hx => by have := List.mem_singleton.1 hx; subst this; exact Nat.le_refl _))) ?_
        clear hK
        intro hr
        replace hx := hx.trans hr
        clear hr
        try simp only [Act.put, List.setIfInBounds_toArray, List.set_cons_zero, List.set_cons_succ]
        refine wpT_call (List.getElem?_toArray.trans (by rfl)) (by rfl) (fun K hK => ?_) ?_
        · skip
          
          go_simp
          first | (refine hK _ _ ?_ ?_; (focus ((repeat (first | (with_reducible exact Bel.refl _ _ _) | assumption | (with_reducible exact Bel.alloc1 (by first | assumption | omega | (simp; omega))) | (with_reducible refine Bel.drew ?_) | (with_reducible refine Bel.drewL ?_) | (with_reducible refine Bel.setCell ?_ ?_ _; rotate_left; (focus (first | omega | (simp; done) | (simp; omega)))) | (with_reducible refine Bel.alloc ?_ _))); done))) | (refine hK undef _ ?_ ?_; (focus ((repeat (first | (with_reducible exact Bel.refl _ _ _) | assumption | (with_reducible exact Bel.alloc1 (by first | assumption | omega | (simp; omega))) | (with_reducible refine Bel.drew ?_) | (with_reducible refine Bel.drewL ?_) | (with_reducible refine Bel.setCell ?_ ?_ _; rotate_left; (focus (first | omega | (simp; done) | (simp; omega)))) | (with_reducible refine Bel.alloc ?_ _))); done)))
          clear hK
          intro hr
          have kL := blk_of_bel hr
          replace hx := hx.trans hr
          clear hr
          try simp only [Act.put, List.setIfInBounds_toArray, List.set_cons_zero, List.set_cons_succ]
          first
            | (refine wpT_takeN hx (by simp) (v := ?_) (List.getElem?_toArray.trans (by rfl)) (by rfl) (fun _ hc => ?_) ?_
               rotate_left
               focus (go_simp; (try go_ints); exact rfl)
               simp only [Act.put, List.setIfInBounds_toArray, List.set_cons_zero, List.set_cons_succ])
            | (refine wpT_skip (List.getElem?_toArray.trans (by rfl)) (by rfl) ?_; simp only [Act.put, List.setIfInBounds_toArray, List.set_cons_zero, List.set_cons_succ])
          refine wpT_done ?_
          have hX4 : Ext W (w1.alloc (Obj.cells #[.slice A0 g.ns.length a0, .slice B0 g.us.length b0, .slice C0 g.rs.length c0, .slice A2 g2.ns.length a2, .slice B2 g2.us.length b2, .slice C2 g2.rs.length c2] 26)) := ext_bel hx
          have hlu2 := hv2.lu
          have hlr2 := hv2.lr
          have hT := duo_mk kL (hg.ext hX4) (hg2.ext (Ext.alloc (Ext.refl _) _)).rd ⟨by omega, by omega, by omega⟩ ⟨by omega, by omega, by omega⟩
          have hE4 : Ext w (w1.alloc (Obj.cells #[.slice A0 g.ns.length a0, .slice B0 g.us.length b0, .slice C0 g.rs.length c0, .slice A2 g2.ns.length a2, .slice B2 g2.us.length b2, .slice C2 g2.rs.length c2] 26)) := hEW.trans hX4
          generalize w1.alloc (Obj.cells #[.slice A0 g.ns.length a0, .slice B0 g.us.length b0, .slice C0 g.rs.length c0, .slice A2 g2.ns.length a2, .slice B2 g2.us.length b2, .slice C2 g2.rs.length c2] 26) = W4 at hT hE4 ⊢
          generalize w1.heap.size = bL at hT ⊢
          clear hX4 kL hg2 hx hB2 hD2 hE1 hDk hz1 hzs hlu2 hlr2 hg k2 c2' l2
          go_wp2_with fail
          go_loopw [17] (fun s wr => ∃ k : Nat, k ≤ 2 ∧ s = .int .i64 k ∧ Ext w wr ∧ Duo wr bL) (fun s _ => 2 - (intOf s).toNat)
          case atStart => exact ⟨0, by omega, rfl, hE4, hT⟩
          case round =>
            obtain ⟨k, hk, rfl, hEr, hTr⟩ := hrel
            clear hT hE4
            by_cases hk3 : k < 2
            · have dk : decide ((k : Int) < 2) = true := by simp; omega
              have dk' : decide (k < 2) = true := by simp; omega
              have hkI : (k : Int) < 2 := by omega
              obtain ⟨A1, B1, C1, a1, b1, c1, gg, f1, f2, f3, hg5, hbb⟩ := hTr k hk3
              have hb3l := cell_lt f1
              obtain ⟨b, hb⟩ : ∃ b, vldB gg = b := ⟨_, rfl⟩
              have Hb := Lib.hid hb
              have hnb := hbb.1
              have hrl : (nats (reachL gg)).length ≤ 1000 := by
                have := reachL_len gg
                rw [nats_len]
                omega
              clear hb
              go_upto_region 6 with fail
              have k6 : Blk (wr.alloc (.cells #[.slice A1 gg.ns.length a1, .slice B1 gg.us.length b1, .slice C1 gg.rs.length c1] 26)) wr.heap.size 26 #[.slice A1 gg.ns.length a1, .slice B1 gg.us.length b1, .slice C1 gg.rs.length c1] := Blk.new rfl
              have hE6 : Ext wr (wr.alloc (.cells #[.slice A1 gg.ns.length a1, .slice B1 gg.us.length b1, .slice C1 gg.rs.length c1] 26)) := Ext.alloc (Ext.refl _) _
              generalize wr.alloc (.cells #[.slice A1 gg.ns.length a1, .slice B1 gg.us.length b1, .slice C1 gg.rs.length c1] 26) = W6 at k6 hE6 ⊢
              generalize wr.heap.size = b6 at k6 ⊢
              have hg6 := hg5.ext hE6
              replace hTr := hTr.ext hE6
              replace hEr := hEr.trans hE6
              clear hg5 hE6 f1 f2 f3 hb3l
              have c6 := k6.cell
              have l6 := k6.lt
              cases b with
              | true =>
                have hv := vldB_true.1 Hb.out
                refine wp_region_treeE (.take 0 (.alt 1 (.take 2 (.take 3 (.take 5 (.alt 4 (.alt 6 (.alt 7 (.take 8 (.take 9 (.take 10 (.take 12 (.alt 11 (.alt 13 (.take 14 (.take 15 (.take 16 .done))) .none) .none))))) .none) .none) .none)))) .none)) Try.mixed (by kernel_rfl) ?_
                intro hx
                first
                  | (refine wpT_take hx (v := ?_) (List.getElem?_toArray.trans (by rfl)) (by rfl) (fun _ hc => ?_) ?_
                     rotate_left
                     focus (go_simp; (try go_ints); exact rfl)
                     simp only [Act.put, List.setIfInBounds_toArray, List.set_cons_zero, List.set_cons_succ])
                  | (refine wpT_skip (List.getElem?_toArray.trans (by rfl)) (by rfl) ?_; simp only [Act.put, List.setIfInBounds_toArray, List.set_cons_zero, List.set_cons_succ])
                refine wpT_call (List.getElem?_toArray.trans (by rfl)) (by rfl) (fun K hK => ?_) ?_
                · skip
                  go_simp
                  go_at_call 14
                  refine (valid_of Hb.out _ _ (hg6.ext (by (repeat (first | (with_reducible exact Ext.refl _) | assumption | (with_reducible refine Ext.alloc ?_ _) | (with_reducible refine Ext.drew ?_) | (with_reducible refine Ext.drewL ?_) | refine Ext.trans ?_ (by assumption))))) hbb).mono ?_
                  rintro e w1 ⟨rfl, hE1⟩
                  refine hK _ _ (hE1) ?_
                  clear hK
                  intro hr
                  replace hx := hx.trans hr
                  clear hr
                  try simp only [Act.put, List.setIfInBounds_toArray, List.set_cons_zero, List.set_cons_succ]
                  first
                    | (refine wpT_take hx (v := ?_) (List.getElem?_toArray.trans (by rfl)) (by rfl) (fun _ hc => ?_) ?_
                       rotate_left
                       focus (go_simp; (try go_ints); exact rfl)
                       simp only [Act.put, List.setIfInBounds_toArray, List.set_cons_zero, List.set_cons_succ])
                    | (refine wpT_skip (List.getElem?_toArray.trans (by rfl)) (by rfl) ?_; simp only [Act.put, List.setIfInBounds_toArray, List.set_cons_zero, List.set_cons_succ])
                  first
                    | (refine wpT_take hx (v := ?_) (List.getElem?_toArray.trans (by rfl)) (by rfl) (fun _ hc => ?_) ?_
                       rotate_left
                       focus (go_simp; (try go_ints); exact rfl)
                       simp only [Act.put, List.setIfInBounds_toArray, List.set_cons_zero, List.set_cons_succ])
                    | (refine wpT_skip (List.getElem?_toArray.trans (by rfl)) (by rfl) ?_; simp only [Act.put, List.setIfInBounds_toArray, List.set_cons_zero, List.set_cons_succ])
                  first
                    | (refine wpT_take hx (v := ?_) (List.getElem?_toArray.trans (by rfl)) (by rfl) (fun _ hc => ?_) ?_
                       rotate_left
                       focus (go_simp; (try go_ints); exact rfl)
                       simp only [Act.put, List.setIfInBounds_toArray, List.set_cons_zero, List.set_cons_succ])
                    | (refine wpT_skip (List.getElem?_toArray.trans (by rfl)) (by rfl) ?_; simp only [Act.put, List.setIfInBounds_toArray, List.set_cons_zero, List.set_cons_succ])
                  refine wpT_call (List.getElem?_toArray.trans (by rfl)) (by rfl) (fun K hK => ?_) ?_
                  · skip
                    go_simp
                    go_at_call 16
                    refine (reach16_any _ gg _ (hg6.ext (by (repeat (first | (with_reducible exact Ext.refl _) | assumption | (with_reducible refine Ext.alloc ?_ _) | (with_reducible refine Ext.drew ?_) | (with_reducible refine Ext.drewL ?_) | refine Ext.trans ?_ (by assumption))))) hv (by omega)).mono ?_
                    rintro e w1 ⟨A21, c21, rfl, hl1, hE2⟩
                    refine hK _ _ (hE2) ?_
                    clear hK
                    intro hr
                    replace hx := hx.trans hr
                    clear hr
                    try simp only [Act.put, List.setIfInBounds_toArray, List.set_cons_zero, List.set_cons_succ]
                    refine wpT_call (List.getElem?_toArray.trans (by rfl)) (by rfl) (fun K hK => ?_) ?_
                    · skip
                      go_simp
                      go_at_call 17
                      refine (reach17_any _ gg _ (hg6.ext (by (repeat (first | (with_reducible exact Ext.refl _) | assumption | (with_reducible refine Ext.alloc ?_ _) | (with_reducible refine Ext.drew ?_) | (with_reducible refine Ext.drewL ?_) | refine Ext.trans ?_ (by assumption))))) hv (by omega)).mono ?_
                      rintro e w1 ⟨A22, c22, rfl, hl2, hE3⟩
                      refine hK _ _ (hE3) ?_
                      clear hK
                      intro hr
                      replace hx := hx.trans hr
                      clear hr
                      try simp only [Act.put, List.setIfInBounds_toArray, List.set_cons_zero, List.set_cons_succ]
                      refine wpT_call (List.getElem?_toArray.trans (by rfl)) (by rfl) (fun K hK => ?_) ?_
                      · skip
                        go_simp
                        go_at_call 15
                        refine (same15_any _ _ _ _ _ (nats (reachL gg)) _ ((Rd.of_own hl1).ext (by (repeat (first | (with_reducible exact Ext.refl _) | assumption | (with_reducible refine Ext.alloc ?_ _) | (with_reducible refine Ext.drew ?_) | (with_reducible refine Ext.drewL ?_) | refine Ext.trans ?_ (by assumption))))) ((Rd.of_own hl2).ext (by (repeat (first | (with_reducible exact Ext.refl _) | assumption | (with_reducible refine Ext.alloc ?_ _) | (with_reducible refine Ext.drew ?_) | (with_reducible refine Ext.drewL ?_) | refine Ext.trans ?_ (by assumption))))) (by omega)).mono ?_
                        rintro e w1 ⟨rfl, hE4⟩
                        refine hK _ _ (hE4) ?_
                        clear hK
                        intro hr
                        replace hx := hx.trans hr
                        clear hr
                        try simp only [Act.put, List.setIfInBounds_toArray, List.set_cons_zero, List.set_cons_succ]
                        first
                          | (refine wpT_take hx (v := ?_) (List.getElem?_toArray.trans (by rfl)) (by rfl) (fun _ hc => ?_) ?_
                             rotate_left
                             focus (go_simp; (try go_ints); exact rfl)
                             simp only [Act.put, List.setIfInBounds_toArray, List.set_cons_zero, List.set_cons_succ])
                          | (refine wpT_skip (List.getElem?_toArray.trans (by rfl)) (by rfl) ?_; simp only [Act.put, List.setIfInBounds_toArray, List.set_cons_zero, List.set_cons_succ])
                        first
                          | (refine wpT_take hx (v := ?_) (List.getElem?_toArray.trans (by rfl)) (by rfl) (fun _ hc => ?_) ?_
                             rotate_left
                             focus (go_simp; (try go_ints); exact rfl)
                             simp only [Act.put, List.setIfInBounds_toArray, List.set_cons_zero, List.set_cons_succ])
                          | (refine wpT_skip (List.getElem?_toArray.trans (by rfl)) (by rfl) ?_; simp only [Act.put, List.setIfInBounds_toArray, List.set_cons_zero, List.set_cons_succ])
                        first
                          | (refine wpT_take hx (v := ?_) (List.getElem?_toArray.trans (by rfl)) (by rfl) (fun _ hc => ?_) ?_
                             rotate_left
                             focus (go_simp; (try go_ints); exact rfl)
                             simp only [Act.put, List.setIfInBounds_toArray, List.set_cons_zero, List.set_cons_succ])
                          | (refine wpT_skip (List.getElem?_toArray.trans (by rfl)) (by rfl) ?_; simp only [Act.put, List.setIfInBounds_toArray, List.set_cons_zero, List.set_cons_succ])
                        first
                          | (refine wpT_take hx (v := ?_) (List.getElem?_toArray.trans (by rfl)) (by rfl) (fun _ hc => ?_) ?_
                             rotate_left
                             focus (go_simp; (try go_ints); exact rfl)
                             simp only [Act.put, List.setIfInBounds_toArray, List.set_cons_zero, List.set_cons_succ])
                          | (refine wpT_skip (List.getElem?_toArray.trans (by rfl)) (by rfl) ?_; simp only [Act.put, List.setIfInBounds_toArray, List.set_cons_zero, List.set_cons_succ])
                        refine wpT_call (List.getElem?_toArray.trans (by rfl)) (by rfl) (fun K hK => ?_) ?_
                        · skip
                          go_simp
                          go_at_call 18
                          refine (live18_any _ gg _ (hg6.ext (by (repeat (first | (with_reducible exact Ext.refl _) | assumption | (with_reducible refine Ext.alloc ?_ _) | (with_reducible refine Ext.drew ?_) | (with_reducible refine Ext.drewL ?_) | refine Ext.trans ?_ (by assumption))))) hv (hv.bd (by omega))).mono ?_
                          rintro e w1 ⟨rfl, hE5⟩
                          refine hK _ _ (hE5) ?_
                          clear hK
                          intro hr
                          replace hx := hx.trans hr
                          clear hr
                          try simp only [Act.put, List.setIfInBounds_toArray, List.set_cons_zero, List.set_cons_succ]
                          refine wpT_call (List.getElem?_toArray.trans (by rfl)) (by rfl) (fun K hK => ?_) ?_
                          · skip
                            go_simp
                            go_at_call 19
                            refine (live19_any _ gg _ (hg6.ext (by (repeat (first | (with_reducible exact Ext.refl _) | assumption | (with_reducible refine Ext.alloc ?_ _) | (with_reducible refine Ext.drew ?_) | (with_reducible refine Ext.drewL ?_) | refine Ext.trans ?_ (by assumption))))) hv (hv.bd (by omega))).mono ?_
                            rintro e w1 ⟨rfl, hE6⟩
                            refine hK _ _ (hE6) ?_
                            clear hK
                            intro hr
                            replace hx := hx.trans hr
                            clear hr
                            try simp only [Act.put, List.setIfInBounds_toArray, List.set_cons_zero, List.set_cons_succ]
                            first
                              | (refine wpT_take hx (v := ?_) (List.getElem?_toArray.trans (by rfl)) (by rfl) (fun _ hc => ?_) ?_
                                 rotate_left
                                 focus (go_simp; (try go_ints); exact rfl)
                                 simp only [Act.put, List.setIfInBounds_toArray, List.set_cons_zero, List.set_cons_succ])
                              | (refine wpT_skip (List.getElem?_toArray.trans (by rfl)) (by rfl) ?_; simp only [Act.put, List.setIfInBounds_toArray, List.set_cons_zero, List.set_cons_succ])
                            first
                              | (refine wpT_take hx (v := ?_) (List.getElem?_toArray.trans (by rfl)) (by rfl) (fun _ hc => ?_) ?_
                                 rotate_left
                                 focus (go_simp; (try go_ints); exact rfl)
                                 simp only [Act.put, List.setIfInBounds_toArray, List.set_cons_zero, List.set_cons_succ])
                              | (refine wpT_skip (List.getElem?_toArray.trans (by rfl)) (by rfl) ?_; simp only [Act.put, List.setIfInBounds_toArray, List.set_cons_zero, List.set_cons_succ])
                            first
                              | (refine wpT_take hx (v := ?_) (List.getElem?_toArray.trans (by rfl)) (by rfl) (fun _ hc => ?_) ?_
                                 rotate_left
                                 focus (go_simp; (try go_ints); exact rfl)
                                 simp only [Act.put, List.setIfInBounds_toArray, List.set_cons_zero, List.set_cons_succ])
                              | (refine wpT_skip (List.getElem?_toArray.trans (by rfl)) (by rfl) ?_; simp only [Act.put, List.setIfInBounds_toArray, List.set_cons_zero, List.set_cons_succ])
                            refine wpT_done ?_
                            go_wp2
                            go_roundw
                            case rel => exact ⟨k + 1, by omega, by go_num, hEr.trans (by (repeat (first | (with_reducible exact Ext.refl _) | assumption | (with_reducible refine Ext.alloc ?_ _) | (with_reducible refine Ext.drew ?_) | (with_reducible refine Ext.drewL ?_) | refine Ext.trans ?_ (by assumption)))), hTr.ext (by (repeat (first | (with_reducible exact Ext.refl _) | assumption | (with_reducible refine Ext.alloc ?_ _) | (with_reducible refine Ext.drew ?_) | (with_reducible refine Ext.drewL ?_) | refine Ext.trans ?_ (by assumption))))⟩
                            case measure => simp [intOf]; omega
                          exact wpT_none
                        exact wpT_none
                      exact wpT_none
                    exact wpT_none
                  exact wpT_none
                exact wpT_none
              | false =>
                refine wp_region_treeE (.take 0 (.alt 1 (.take 2 (.take 3 (.take 4 (.take 5 (.take 6 (.take 7 (.take 8 (.take 9 (.take 10 (.take 11 (.take 12 (.take 13 (.take 14 (.take 15 (.take 16 .done))))))))))))))) .none)) Try.mixed (by kernel_rfl) ?_
                intro hx
                first
                  | (refine wpT_take hx (v := ?_) (List.getElem?_toArray.trans (by rfl)) (by rfl) (fun _ hc => ?_) ?_
                     rotate_left
                     focus (go_simp; (try go_ints); exact rfl)
                     simp only [Act.put, List.setIfInBounds_toArray, List.set_cons_zero, List.set_cons_succ])
                  | (refine wpT_skip (List.getElem?_toArray.trans (by rfl)) (by rfl) ?_; simp only [Act.put, List.setIfInBounds_toArray, List.set_cons_zero, List.set_cons_succ])
                refine wpT_call (List.getElem?_toArray.trans (by rfl)) (by rfl) (fun K hK => ?_) ?_
                · skip
                  go_simp
                  go_at_call 14
                  refine (valid_of Hb.out _ _ (hg6.ext (by (repeat (first | (with_reducible exact Ext.refl _) | assumption | (with_reducible refine Ext.alloc ?_ _) | (with_reducible refine Ext.drew ?_) | (with_reducible refine Ext.drewL ?_) | refine Ext.trans ?_ (by assumption))))) hbb).mono ?_
                  rintro e w1 ⟨rfl, hE1⟩
                  refine hK _ _ (hE1) ?_
                  clear hK
                  intro hr
                  replace hx := hx.trans hr
                  clear hr
                  try simp only [Act.put, List.setIfInBounds_toArray, List.set_cons_zero, List.set_cons_succ]
                  first
                    | (refine wpT_take hx (v := ?_) (List.getElem?_toArray.trans (by rfl)) (by rfl) (fun _ hc => ?_) ?_
                       rotate_left
                       focus (go_simp; (try go_ints); exact rfl)
                       simp only [Act.put, List.setIfInBounds_toArray, List.set_cons_zero, List.set_cons_succ])
                    | (refine wpT_skip (List.getElem?_toArray.trans (by rfl)) (by rfl) ?_; simp only [Act.put, List.setIfInBounds_toArray, List.set_cons_zero, List.set_cons_succ])
                  first
                    | (refine wpT_take hx (v := ?_) (List.getElem?_toArray.trans (by rfl)) (by rfl) (fun _ hc => ?_) ?_
                       rotate_left
                       focus (go_simp; (try go_ints); exact rfl)
                       simp only [Act.put, List.setIfInBounds_toArray, List.set_cons_zero, List.set_cons_succ])
                    | (refine wpT_skip (List.getElem?_toArray.trans (by rfl)) (by rfl) ?_; simp only [Act.put, List.setIfInBounds_toArray, List.set_cons_zero, List.set_cons_succ])
                  refine wpT_skip (List.getElem?_toArray.trans (by rfl)) (by rfl) ?_
                  simp only [Act.put, List.setIfInBounds_toArray, List.set_cons_zero, List.set_cons_succ]
                  first
                    | (refine wpT_take hx (v := ?_) (List.getElem?_toArray.trans (by rfl)) (by rfl) (fun _ hc => ?_) ?_
                       rotate_left
                       focus (go_simp; (try go_ints); exact rfl)
                       simp only [Act.put, List.setIfInBounds_toArray, List.set_cons_zero, List.set_cons_succ])
                    | (refine wpT_skip (List.getElem?_toArray.trans (by rfl)) (by rfl) ?_; simp only [Act.put, List.setIfInBounds_toArray, List.set_cons_zero, List.set_cons_succ])
                  refine wpT_skip (List.getElem?_toArray.trans (by rfl)) (by rfl) ?_
                  simp only [Act.put, List.setIfInBounds_toArray, List.set_cons_zero, List.set_cons_succ]
                  refine wpT_skip (List.getElem?_toArray.trans (by rfl)) (by rfl) ?_
                  simp only [Act.put, List.setIfInBounds_toArray, List.set_cons_zero, List.set_cons_succ]
                  first
                    | (refine wpT_take hx (v := ?_) (List.getElem?_toArray.trans (by rfl)) (by rfl) (fun _ hc => ?_) ?_
                       rotate_left
                       focus (go_simp; (try go_ints); exact rfl)
                       simp only [Act.put, List.setIfInBounds_toArray, List.set_cons_zero, List.set_cons_succ])
                    | (refine wpT_skip (List.getElem?_toArray.trans (by rfl)) (by rfl) ?_; simp only [Act.put, List.setIfInBounds_toArray, List.set_cons_zero, List.set_cons_succ])
                  first
                    | (refine wpT_take hx (v := ?_) (List.getElem?_toArray.trans (by rfl)) (by rfl) (fun _ hc => ?_) ?_
                       rotate_left
                       focus (go_simp; (try go_ints); exact rfl)
                       simp only [Act.put, List.setIfInBounds_toArray, List.set_cons_zero, List.set_cons_succ])
                    | (refine wpT_skip (List.getElem?_toArray.trans (by rfl)) (by rfl) ?_; simp only [Act.put, List.setIfInBounds_toArray, List.set_cons_zero, List.set_cons_succ])
                  first
                    | (refine wpT_take hx (v := ?_) (List.getElem?_toArray.trans (by rfl)) (by rfl) (fun _ hc => ?_) ?_
                       rotate_left
                       focus (go_simp; (try go_ints); exact rfl)
                       simp only [Act.put, List.setIfInBounds_toArray, List.set_cons_zero, List.set_cons_succ])
                    | (refine wpT_skip (List.getElem?_toArray.trans (by rfl)) (by rfl) ?_; simp only [Act.put, List.setIfInBounds_toArray, List.set_cons_zero, List.set_cons_succ])
                  refine wpT_skip (List.getElem?_toArray.trans (by rfl)) (by rfl) ?_
                  simp only [Act.put, List.setIfInBounds_toArray, List.set_cons_zero, List.set_cons_succ]
                  first
                    | (refine wpT_take hx (v := ?_) (List.getElem?_toArray.trans (by rfl)) (by rfl) (fun _ hc => ?_) ?_
                       rotate_left
                       focus (go_simp; (try go_ints); exact rfl)
                       simp only [Act.put, List.setIfInBounds_toArray, List.set_cons_zero, List.set_cons_succ])
                    | (refine wpT_skip (List.getElem?_toArray.trans (by rfl)) (by rfl) ?_; simp only [Act.put, List.setIfInBounds_toArray, List.set_cons_zero, List.set_cons_succ])
                  refine wpT_skip (List.getElem?_toArray.trans (by rfl)) (by rfl) ?_
                  simp only [Act.put, List.setIfInBounds_toArray, List.set_cons_zero, List.set_cons_succ]
                  first
                    | (refine wpT_take hx (v := ?_) (List.getElem?_toArray.trans (by rfl)) (by rfl) (fun _ hc => ?_) ?_
                       rotate_left
                       focus (go_simp; (try go_ints); exact rfl)
                       simp only [Act.put, List.setIfInBounds_toArray, List.set_cons_zero, List.set_cons_succ])
                    | (refine wpT_skip (List.getElem?_toArray.trans (by rfl)) (by rfl) ?_; simp only [Act.put, List.setIfInBounds_toArray, List.set_cons_zero, List.set_cons_succ])
                  first
                    | (refine wpT_take hx (v := ?_) (List.getElem?_toArray.trans (by rfl)) (by rfl) (fun _ hc => ?_) ?_
                       rotate_left
                       focus (go_simp; (try go_ints); exact rfl)
                       simp only [Act.put, List.setIfInBounds_toArray, List.set_cons_zero, List.set_cons_succ])
                    | (refine wpT_skip (List.getElem?_toArray.trans (by rfl)) (by rfl) ?_; simp only [Act.put, List.setIfInBounds_toArray, List.set_cons_zero, List.set_cons_succ])
                  first
                    | (refine wpT_take hx (v := ?_) (List.getElem?_toArray.trans (by rfl)) (by rfl) (fun _ hc => ?_) ?_
                       rotate_left
                       focus (go_simp; (try go_ints); exact rfl)
                       simp only [Act.put, List.setIfInBounds_toArray, List.set_cons_zero, List.set_cons_succ])
                    | (refine wpT_skip (List.getElem?_toArray.trans (by rfl)) (by rfl) ?_; simp only [Act.put, List.setIfInBounds_toArray, List.set_cons_zero, List.set_cons_succ])
                  refine wpT_done ?_
                  go_wp2
                  go_roundw
                  case rel => exact ⟨k + 1, by omega, by go_num, hEr.trans (by (repeat (first | (with_reducible exact Ext.refl _) | assumption | (with_reducible refine Ext.alloc ?_ _) | (with_reducible refine Ext.drew ?_) | (with_reducible refine Ext.drewL ?_) | refine Ext.trans ?_ (by assumption)))), hTr.ext (by (repeat (first | (with_reducible exact Ext.refl _) | assumption | (with_reducible refine Ext.alloc ?_ _) | (with_reducible refine Ext.drew ?_) | (with_reducible refine Ext.drewL ?_) | refine Ext.trans ?_ (by assumption))))⟩
                  case measure => simp [intOf]; omega
                exact wpT_none
            · have dk : decide ((k : Int) < 2) = false := by simp; omega
              have dk' : decide (k < 2) = false := by simp; omega
              go_wp2_with (go_at_call 13; refine (awake_any _).mono ?_; rintro e w2 ⟨rfl, hE2⟩)
              go_ret
              exact ⟨rfl, hEr.trans hE2⟩
        exact wpT_none
      exact wpT_none
    exact wpT_none
end Go.Proofs.Ytamghjilcfeheaa
