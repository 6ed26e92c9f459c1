/- The walk of mk.Table. Conditions: the ranges that each theorem states. -/
import Derived.Test.YtgjgnokfmjeekaaP
namespace Go.Proofs.Ytgjgnokfmjeekaa
open Go.RowKit Go.Draw

theorem bel_drew {N : Nat} {S : List Nat} {a w : World} (h : Bel N S a.drew w) : Bel N S a w := ⟨h.os, h.tape, h.output, h.size, h.block⟩
theorem rd_bel {w w' : World} {A : Option Addr} {n N size : Nat} {xs : List Value} {S : List Nat} (h : Rd w A n size xs) (he : Bel N S w w') (hN : N = w.heap.size) (hS : ∀ ad, A = some ad → ad.block ∉ S) : Rd w' A n size xs :=
  h.but (by subst hN; exact he.but) hS
theorem tb_bel {w w' : World} {d g x : Nat} (h : Tb w g x) (he : Bel w.heap.size [d] w w') (hg : d ≤ g) (hx : d < x) : Tb w' g x := by
  have hb := he.but
  obtain ⟨b, b', c, c', us, rs, h1, h2, h3, h4, h5, h6, h7⟩ := h
  refine ⟨b, b', c, c', us, rs, h1.but hb (by simp; omega), h2.but hb (fun ad ha => ?_), h3.but hb (fun ad ha => ?_), h4, h5, h6, h7⟩
  · injection ha with ha; subst ha; simp; omega
  · injection ha with ha; subst ha; simp; omega
/-- where no error is told, a valid table behind block d and not in x -/
def G2 (w' : World) (d x : Nat) (A B : Option Addr) (n : Nat) (er : Int) : Prop :=
  er = 0 → ∃ (g g' : Nat) (us : List Bool) (rs : List Int), n = 32 ∧ A = some ⟨g, 0, none⟩ ∧ B = some ⟨g', 0, none⟩ ∧ d < g ∧ d < g' ∧ g ≠ x ∧ g' ≠ x ∧ validT us rs = true ∧ Rd w' A 32 1 (bools us) ∧ Rd w' B 32 1 (words rs)
theorem G2.of {w w1 w' : World} {d x b : Nat} {A B : Option Addr} {n : Nat} {er : Int} (h : Gd w w1 A B n er) (hd : d < w.heap.size) (hx : x < w.heap.size) (hb : But [b] w1 w') (hf : b < w.heap.size ∨ w1.heap.size ≤ b) : G2 w' d x A B n er := by
  intro he
  obtain ⟨g, g', us, rs, rfl, rfl, rfl, h1, h2, h3, h4, h5, h6, h7⟩ := h he
  refine ⟨g, g', us, rs, rfl, rfl, rfl, by omega, by omega, by omega, by omega, h5, h6.but hb (fun ad ha => ?_), h7.but hb (fun ad ha => ?_)⟩
  · injection ha with ha; subst ha; simp; omega
  · injection ha with ha; subst ha; simp; omega
/-- between two statements of the loop -/
def Lp (w0 : World) (d x : Nat) (w : World) : Prop := Tb w w0.heap.size x ∧ Blk w w0.heap.size 30 #[.slice none 0 0, .slice none 0 0] ∧ Dk w d ∧ But [d] w0 w

theorem Lp.next {w wr w4 : World} {d x : Nat} (h : Lp w d x wr) (hb : But [d] wr w4) (hd : Dk w4 d) (hdl : d < w.heap.size) (hdx : d < x) : Lp w d x w4 :=
  ⟨h.1.but hb hdl hdx, h.2.1.but hb (by simp; omega), hd, h.2.2.2.trans hb⟩
theorem lp_store {w wr : World} {d x g g' c c' : Nat} {us : List Bool} {rs : List Int} (h : Lp w d x wr) (k1 : w.heap.size < g) (k2 : w.heap.size < g') (k3 : g ≠ x) (k4 : g' ≠ x) (k5 : validT us rs = true)
    (k6 : Rd wr (some ⟨g, 0, none⟩) 32 1 (bools us)) (k7 : Rd wr (some ⟨g', 0, none⟩) 32 1 (words rs)) (hdx : d < x) (hxx : w.heap.size < x) :
    Lp w d x ((wr.setCell ⟨x, 0, none⟩ (.slice (some ⟨g, 0, none⟩) 32 c)).setCell ⟨x, 1, none⟩ (.slice (some ⟨g', 0, none⟩) 32 c')) := by
  obtain ⟨⟨b, b', e, e', us', rs', h1, h2⟩, hr, hd, hb⟩ := h
  have hB : But [x] wr ((wr.setCell ⟨x, 0, none⟩ (.slice (some ⟨g, 0, none⟩) 32 c)).setCell ⟨x, 1, none⟩ (.slice (some ⟨g', 0, none⟩) 32 c')) := But.setCell (But.setCell (But.refl _ _) (by simp) _) (by simp) _
  refine ⟨⟨g, g', c, c', us, rs, (h1.set_ 0 _).set_ 1 _, k6.but hB ?_, k7.but hB ?_, k5, k1, k2, k3, k4⟩, hr.but hB (by simp; omega), hd.but hB (by simp; omega), But.fresh (But.fresh hb (by show w.heap.size ≤ x; omega) _) (by show w.heap.size ≤ x; omega) _⟩
  · intro ad ha
    injection ha with ha; subst ha; simpa using k3
  · intro ad ha
    injection ha with ha; subst ha; simpa using k4
theorem blk_of_bel {N : Nat} {S : List Nat} {w : World} {cs : Array Value} {t : TypeId} (_ : Bel N S w (w.alloc (.cells cs t))) : Blk (w.alloc (.cells cs t)) w.heap.size t cs := Blk.new rfl
theorem blk_of_bel2 {N : Nat} {S : List Nat} {w : World} {cs : Array Value} {t : TypeId} (_ : Bel N S w.drew (w.alloc (.cells cs t)).drew) : Blk (w.alloc (.cells cs t)).drew w.heap.size t cs := Blk.drew (Blk.new rfl)
theorem fin5 {w wr wb w1 W : World} {d x b : Nat} {A B : Option Addr} {n c c' : Nat} {er : Int} (hL : Lp w d x wr) (hx : Bel wr.heap.size [d] wr.drew W) (hdk : Dk w1 d) (hW : But [b] w1 W) (hk : Blk W b 30 #[.slice A n c, .slice B n c']) (hG : Gd wb w1 A B n er)
    (h1 : wr.heap.size ≤ wb.heap.size) (h2 : b < wb.heap.size ∨ w1.heap.size ≤ b) (h3 : wr.heap.size ≤ b) (h4 : x < wr.heap.size) (h5 : d < w.heap.size) (h6 : w.heap.size < x) :
    Lp w d x W ∧ Blk W b 30 #[.slice A n c, .slice B n c'] ∧ b ≠ x ∧ G2 W w.heap.size x A B n er := by
  have hx' := bel_drew hx
  have hbx := hx'.but
  exact ⟨⟨tb_bel hL.1 hx' (by omega) (by omega), hL.2.1.but hbx (by simp; omega), hdk.but hW (by simp; omega), hL.2.2.2.trans hbx⟩, hk, by omega, G2.of hG (by omega) (by omega) hW h2⟩



set_option maxHeartbeats 1000000 in
theorem table_any (d : Nat) (w : World) (hd : Dk w d) :
    Calls Try.prog 15 #[.pointer (some ⟨d, 0, none⟩)] w fun r w' => ∃ (g g' c c' : Nat) (us : List Bool) (rs : List Int), r = .returned (.agg #[.slice (some ⟨g, 0, none⟩) 32 c, .slice (some ⟨g', 0, none⟩) 32 c']) ∧ Rd w' (some ⟨g, 0, none⟩) 32 1 (bools us) ∧ Rd w' (some ⟨g', 0, none⟩) 32 1 (words rs) ∧ validT us rs = true ∧ Dk w' d ∧ But [d] w w' := by
  have hdl := hd.lt
  go_enter Try.func15, Try.ntmps15
  go_wp2_with fail
  go_at_call 29
  refine (rnew_any _).mono ?_
  rintro e wn ⟨A, c, B, c', rfl, hA, hB, hE⟩
  obtain ⟨g, rfl, hg1, hg2⟩ := own_form hA (by omega)
  obtain ⟨g', rfl, hg1', hg2'⟩ := own_form hB (by omega)
  have hz := hE.size_le
  simp at hz hg1 hg1'
  have hE0 : Ext w wn := by (repeat (first | (with_reducible exact Ext.refl _) | assumption | (with_reducible refine Ext.alloc ?_ _) | (with_reducible refine Ext.drew ?_) | (with_reducible refine Ext.drewL ?_) | refine Ext.trans ?_ (by assumption)))
  have hd1 : Dk (wn.alloc (.cells #[.slice (some ⟨g, 0, none⟩) 32 c, .slice (some ⟨g', 0, none⟩) 32 c'] 30)) d := (hd.ext hE0).ext (by (repeat (first | (with_reducible exact Ext.refl _) | assumption | (with_reducible refine Ext.alloc ?_ _) | (with_reducible refine Ext.drew ?_) | (with_reducible refine Ext.drewL ?_) | refine Ext.trans ?_ (by assumption))))
  go_wp2_with fail
  go_at_call 11
  refine (next_any d 40 _ hd1 (by omega) (by omega)).mono ?_
  rintro e w2 ⟨z, rfl, hz0, hz1, hdk, hb⟩
  obtain ⟨k0, rfl⟩ : ∃ k0 : Nat, z = k0 := ⟨z.toNat, by omega⟩
  have hdx : d < wn.heap.size := by omega
  have hr0 : Blk w2 w.heap.size 30 #[.slice none 0 0, .slice none 0 0] := (((Blk.new rfl).ext hE).ext (by (repeat (first | (with_reducible exact Ext.refl _) | assumption | (with_reducible refine Ext.alloc ?_ _) | (with_reducible refine Ext.drew ?_) | (with_reducible refine Ext.drewL ?_) | refine Ext.trans ?_ (by assumption))))).but hb (by simp; omega)
  have ht0 : Tb w2 w.heap.size wn.heap.size := by
    refine Tb.but ?_ hb hdl hdx
    exact ⟨g, g', c, c', _, _, Blk.new rfl, (Rd.of_own hA).ext (by (repeat (first | (with_reducible exact Ext.refl _) | assumption | (with_reducible refine Ext.alloc ?_ _) | (with_reducible refine Ext.drew ?_) | (with_reducible refine Ext.drewL ?_) | refine Ext.trans ?_ (by assumption)))), (Rd.of_own hB).ext (by (repeat (first | (with_reducible exact Ext.refl _) | assumption | (with_reducible refine Ext.alloc ?_ _) | (with_reducible refine Ext.drew ?_) | (with_reducible refine Ext.drewL ?_) | refine Ext.trans ?_ (by assumption)))), by decide, by omega, by omega, by omega, by omega⟩
  have hb0 : But [d] w w2 := But.trans ((show Ext w (wn.alloc (.cells #[.slice (some ⟨g, 0, none⟩) 32 c, .slice (some ⟨g', 0, none⟩) 32 c'] 30)) by (repeat (first | (with_reducible exact Ext.refl _) | assumption | (with_reducible refine Ext.alloc ?_ _) | (with_reducible refine Ext.drew ?_) | (with_reducible refine Ext.drewL ?_) | refine Ext.trans ?_ (by assumption)))).but _) hb
  have hxx : w.heap.size < wn.heap.size := by omega
  have hL0 : Lp w d wn.heap.size w2 := ⟨ht0, hr0, hdk, hb0⟩
  generalize hgx : wn.heap.size = x at *
  clear hgx hE hE0 hA hB hd1 hb hr0 ht0 hb0 hdk
  go_wp2_with fail
  go_loopw [4] (fun s wr => ∃ k : Nat, k ≤ 40 ∧ s = .int .i64 k ∧ Lp w d x wr) (fun s _ => (intOf s).toNat)
  case atStart => exact ⟨k0, by omega, rfl, hL0⟩
  case round =>
    obtain ⟨k, hk, rfl, hLr⟩ := hrel
    obtain ⟨ht, hr, hdw, hbw⟩ := hLr
    have hLr : Lp w d x wr := ⟨ht, hr, hdw, hbw⟩
    clear hL0
    have hww := hbw.size
    by_cases hp : 0 < k
    · have hdec : decide ((0 : Int) < k) = true := by simp; omega
      have hdec' : decide (0 < k) = true := by simp; omega
      have ht' := ht
      obtain ⟨g3, g3', c3, c3', us, rs, h1, h2, h3, h4, h5, h5', h6, h7⟩ := ht
      have hc := h1.cell
      have hf := h1.froz
      have hxl := h1.lt
      have hS6 : ∀ ad, some (⟨g3, 0, none⟩ : Addr) = some ad → ad.block ∉ [d] := fun ad ha => by injection ha with ha; subst ha; simp; omega
      have hS7 : ∀ ad, some (⟨g3', 0, none⟩ : Addr) = some ad → ad.block ∉ [d] := fun ad ha => by injection ha with ha; subst ha; simp; omega
      have hxd : x ≠ d := by omega
      go_upto_region 5 with fail
      go_cut [5, 6, 7] from 13 to 42 (fun s5 s6 s7 wr => ∃ (b5 : Nat) (h er : Int) (A B : Option Addr) (n c c' : Nat), s5 = .pointer (some ⟨b5, 0, none⟩) ∧ s6 = .int .i64 h ∧ s7 = .int .i64 er ∧ Lp w d x wr ∧ Blk wr b5 30 #[.slice A n c, .slice B n c'] ∧ b5 ≠ x ∧ G2 wr w.heap.size x A B n er)
      case first =>
        refine wp_region_treeN (wr.heap.size) [d] (.take 0 (.take 1 (.alt 2 (.take 3 (.alt 4 (.take 5 (.take 6 (.take 7 (.take 8 (.alt 9 (.alt 10 (.take 11 (.take 12 .done)) .none) .none))))) (.alt 9 (.alt 4 (.take 5 (.take 6 (.take 7 (.take 8 (.alt 10 (.take 11 (.take 12 .done)) .none))))) .none) .none))) (.alt 9 (.alt 2 (.take 3 (.alt 4 (.take 5 (.take 6 (.take 7 (.take 8 (.alt 10 (.take 11 (.take 12 .done)) .none))))) .none)) .none) .none)))) Try.mixed (by kernel_rfl) ?_
        intro hx
        first
          | (refine wpT_takeN hx (by simp) (v := ?_) (List.getElem?_toArray.trans (by rfl)) (by rfl) (fun _ hc => ?_) ?_
             rotate_left
             focus (go_simp; (try go_ints); exact rfl)
             simp only [Act.put, List.setIfInBounds_toArray, List.set_cons_zero, List.set_cons_succ])
          | (refine wpT_skip (List.getElem?_toArray.trans (by rfl)) (by rfl) ?_; simp only [Act.put, List.setIfInBounds_toArray, List.set_cons_zero, List.set_cons_succ])
        first
          | (refine wpT_takeN hx (by simp) (v := ?_) (List.getElem?_toArray.trans (by rfl)) (by rfl) (fun _ hc => ?_) ?_
             rotate_left
             focus (go_simp; (try go_ints); exact rfl)
             simp only [Act.put, List.setIfInBounds_toArray, List.set_cons_zero, List.set_cons_succ])
          | (refine wpT_skip (List.getElem?_toArray.trans (by rfl)) (by rfl) ?_; simp only [Act.put, List.setIfInBounds_toArray, List.set_cons_zero, List.set_cons_succ])
        refine wpT_call (List.getElem?_toArray.trans (by rfl)) (by rfl) (fun K hK => ?_) ?_
        · skip
          go_simp
          go_at_call 11
          refine (next_any d 50 _ (hdw.ext (by (repeat (first | (with_reducible exact Ext.refl _) | assumption | (with_reducible refine Ext.alloc ?_ _) | (with_reducible refine Ext.drew ?_) | (with_reducible refine Ext.drewL ?_) | refine Ext.trans ?_ (by assumption))))) (by omega) (by omega)).mono ?_
          rintro e w1 ⟨z, rfl, hz0, hz1, hdk, hb⟩; have hz := hb.size; (try simp at hz); try (replace hk5 := hk5.but hb (by simp; omega))
          refine hK _ _ ((hb).bel _) ?_
          clear hK
          intro hr
          replace hx := hx.trans hr
          clear hr
          try simp only [Act.put, List.setIfInBounds_toArray, List.set_cons_zero, List.set_cons_succ]
          first
            | (refine wpT_takeN hx (by simp) (v := ?_) (List.getElem?_toArray.trans (by rfl)) (by rfl) (fun _ hc => ?_) ?_
               rotate_left
               focus (go_simp; (try go_ints); exact rfl)
               simp only [Act.put, List.setIfInBounds_toArray, List.set_cons_zero, List.set_cons_succ])
            | (refine wpT_skip (List.getElem?_toArray.trans (by rfl)) (by rfl) ?_; simp only [Act.put, List.setIfInBounds_toArray, List.set_cons_zero, List.set_cons_succ])
          refine wpT_call (List.getElem?_toArray.trans (by rfl)) (by rfl) (fun K hK => ?_) ?_
          · skip
            go_simp
            go_at_call 23
            refine (rtake_tab _ _ _ _ _ _ us rs _ _ (rd_bel h2 (bel_drew hx) rfl hS6) (rd_bel h3 (bel_drew hx) rfl hS7) h4).mono ?_
            rintro e w1 ⟨A5, c5, B5, c5', n5, h5', er, rfl, hG5, hE5⟩; have hz5 := hE5.size_le; (try simp at hz5); try (replace hk5 := hk5.ext hE5)
            refine hK _ _ (((hE5.but _)).bel _) ?_
            clear hK
            intro hr
            replace hx := hx.trans hr
            clear hr
            try simp only [Act.put, List.setIfInBounds_toArray, List.set_cons_zero, List.set_cons_succ]
            first
              | (refine wpT_takeN hx (by simp) (v := ?_) (List.getElem?_toArray.trans (by rfl)) (by rfl) (fun _ hc => ?_) ?_
                 rotate_left
                 focus (go_simp; (try go_ints); exact rfl)
                 simp only [Act.put, List.setIfInBounds_toArray, List.set_cons_zero, List.set_cons_succ])
              | (refine wpT_skip (List.getElem?_toArray.trans (by rfl)) (by rfl) ?_; simp only [Act.put, List.setIfInBounds_toArray, List.set_cons_zero, List.set_cons_succ])
            first
              | (refine wpT_takeN hx (by simp) (v := ?_) (List.getElem?_toArray.trans (by rfl)) (by rfl) (fun _ hc => ?_) ?_
                 rotate_left
                 focus (go_simp; (try go_ints); exact rfl)
                 simp only [Act.put, List.setIfInBounds_toArray, List.set_cons_zero, List.set_cons_succ])
              | (refine wpT_skip (List.getElem?_toArray.trans (by rfl)) (by rfl) ?_; simp only [Act.put, List.setIfInBounds_toArray, List.set_cons_zero, List.set_cons_succ])
            first
              | (refine wpT_takeN hx (by simp) (v := ?_) (List.getElem?_toArray.trans (by rfl)) (by rfl) (fun _ hc => ?_) ?_
                 rotate_left
                 focus (go_simp; (try go_ints); exact rfl)
                 simp only [Act.put, List.setIfInBounds_toArray, List.set_cons_zero, List.set_cons_succ])
              | (refine wpT_skip (List.getElem?_toArray.trans (by rfl)) (by rfl) ?_; simp only [Act.put, List.setIfInBounds_toArray, List.set_cons_zero, List.set_cons_succ])
            first
              | (refine wpT_takeN hx (by simp) (v := ?_) (List.getElem?_toArray.trans (by rfl)) (by rfl) (fun _ hc => ?_) ?_
                 rotate_left
                 focus (go_simp; (try go_ints); exact rfl)
                 simp only [Act.put, List.setIfInBounds_toArray, List.set_cons_zero, List.set_cons_succ])
              | (refine wpT_skip (List.getElem?_toArray.trans (by rfl)) (by rfl) ?_; simp only [Act.put, List.setIfInBounds_toArray, List.set_cons_zero, List.set_cons_succ])
            refine wpT_call (List.getElem?_toArray.trans (by rfl)) (by rfl) (fun K hK => ?_) ?_
            · skip
              
              go_simp
              first | (refine hK _ _ ?_ ?_; (focus ((repeat (first | (with_reducible exact Bel.refl _ _ _) | assumption | (with_reducible exact Bel.alloc1 (by first | assumption | omega | (simp; omega))) | (with_reducible refine Bel.drew ?_) | (with_reducible refine Bel.drewL ?_) | (with_reducible refine Bel.setCell ?_ ?_ _; rotate_left; (focus (first | omega | (simp; done) | (simp; omega)))) | (with_reducible refine Bel.alloc ?_ _))); done))) | (refine hK undef _ ?_ ?_; (focus ((repeat (first | (with_reducible exact Bel.refl _ _ _) | assumption | (with_reducible exact Bel.alloc1 (by first | assumption | omega | (simp; omega))) | (with_reducible refine Bel.drew ?_) | (with_reducible refine Bel.drewL ?_) | (with_reducible refine Bel.setCell ?_ ?_ _; rotate_left; (focus (first | omega | (simp; done) | (simp; omega)))) | (with_reducible refine Bel.alloc ?_ _))); done)))
              clear hK
              intro hr
              (try have hk5 := blk_of_bel hr); (try have hk5 := blk_of_bel2 hr)
              replace hx := hx.trans hr
              clear hr
              try simp only [Act.put, List.setIfInBounds_toArray, List.set_cons_zero, List.set_cons_succ]
              refine wpT_call (List.getElem?_toArray.trans (by rfl)) (by rfl) (fun K hK => ?_) ?_
              · skip
                try (have hc5 := hk5.cell; have hf5 := hk5.froz)
                go_simp
                first | (refine hK _ _ ?_ ?_; (focus ((repeat (first | (with_reducible exact Bel.refl _ _ _) | assumption | (with_reducible exact Bel.alloc1 (by first | assumption | omega | (simp; omega))) | (with_reducible refine Bel.drew ?_) | (with_reducible refine Bel.drewL ?_) | (with_reducible refine Bel.setCell ?_ ?_ _; rotate_left; (focus (first | omega | (simp; done) | (simp; omega)))) | (with_reducible refine Bel.alloc ?_ _))); done))) | (refine hK undef _ ?_ ?_; (focus ((repeat (first | (with_reducible exact Bel.refl _ _ _) | assumption | (with_reducible exact Bel.alloc1 (by first | assumption | omega | (simp; omega))) | (with_reducible refine Bel.drew ?_) | (with_reducible refine Bel.drewL ?_) | (with_reducible refine Bel.setCell ?_ ?_ _; rotate_left; (focus (first | omega | (simp; done) | (simp; omega)))) | (with_reducible refine Bel.alloc ?_ _))); done)))
                clear hK
                intro hr
                replace hx := hx.trans hr
                clear hr
                try simp only [Act.put, List.setIfInBounds_toArray, List.set_cons_zero, List.set_cons_succ]
                first
                  | (refine wpT_takeN hx (by simp) (v := ?_) (List.getElem?_toArray.trans (by rfl)) (by rfl) (fun _ hc => ?_) ?_
                     rotate_left
                     focus (go_simp; (try go_ints); exact rfl)
                     simp only [Act.put, List.setIfInBounds_toArray, List.set_cons_zero, List.set_cons_succ])
                  | (refine wpT_skip (List.getElem?_toArray.trans (by rfl)) (by rfl) ?_; simp only [Act.put, List.setIfInBounds_toArray, List.set_cons_zero, List.set_cons_succ])
                first
                  | (refine wpT_takeN hx (by simp) (v := ?_) (List.getElem?_toArray.trans (by rfl)) (by rfl) (fun _ hc => ?_) ?_
                     rotate_left
                     focus (go_simp; (try go_ints); exact rfl)
                     simp only [Act.put, List.setIfInBounds_toArray, List.set_cons_zero, List.set_cons_succ])
                  | (refine wpT_skip (List.getElem?_toArray.trans (by rfl)) (by rfl) ?_; simp only [Act.put, List.setIfInBounds_toArray, List.set_cons_zero, List.set_cons_succ])
                refine wpT_done ?_
                go_wp2
                go_meet
                refine ⟨_, h5', er, A5, B5, n5, c5, c5', rfl, rfl, rfl, ?_⟩
                first
                  | (refine fin5 hLr hx (hdk.ext (by (repeat (first | (with_reducible exact Ext.refl _) | assumption | (with_reducible refine Ext.alloc ?_ _) | (with_reducible refine Ext.drew ?_) | (with_reducible refine Ext.drewL ?_) | refine Ext.trans ?_ (by assumption))))) ?_ (Blk.new rfl) hG5 ?_ ?_ ?_ hxl hdl hxx; (focus (exact (Ext.alloc (Ext.refl _) _).but _)); all_goals (first | omega | (simp; done) | (simp; omega)))
                  | (refine fin5 hLr hx (hdk.ext (by (repeat (first | (with_reducible exact Ext.refl _) | assumption | (with_reducible refine Ext.alloc ?_ _) | (with_reducible refine Ext.drew ?_) | (with_reducible refine Ext.drewL ?_) | refine Ext.trans ?_ (by assumption))))) ?_ ((hk5.set_ 0 _).set_ 1 _) hG5 ?_ ?_ ?_ hxl hdl hxx; (focus (exact But.setCell (But.setCell (But.refl _ _) (by simp) _) (by simp) _)); all_goals (first | omega | (simp; done) | (simp; omega)))
              exact wpT_none
            exact wpT_none
          refine wpT_call (List.getElem?_toArray.trans (by rfl)) (by rfl) (fun K hK => ?_) ?_
          · skip
            
            go_simp
            first | (refine hK _ _ ?_ ?_; (focus ((repeat (first | (with_reducible exact Bel.refl _ _ _) | assumption | (with_reducible exact Bel.alloc1 (by first | assumption | omega | (simp; omega))) | (with_reducible refine Bel.drew ?_) | (with_reducible refine Bel.drewL ?_) | (with_reducible refine Bel.setCell ?_ ?_ _; rotate_left; (focus (first | omega | (simp; done) | (simp; omega)))) | (with_reducible refine Bel.alloc ?_ _))); done))) | (refine hK undef _ ?_ ?_; (focus ((repeat (first | (with_reducible exact Bel.refl _ _ _) | assumption | (with_reducible exact Bel.alloc1 (by first | assumption | omega | (simp; omega))) | (with_reducible refine Bel.drew ?_) | (with_reducible refine Bel.drewL ?_) | (with_reducible refine Bel.setCell ?_ ?_ _; rotate_left; (focus (first | omega | (simp; done) | (simp; omega)))) | (with_reducible refine Bel.alloc ?_ _))); done)))
            clear hK
            intro hr
            (try have hk5 := blk_of_bel hr); (try have hk5 := blk_of_bel2 hr)
            replace hx := hx.trans hr
            clear hr
            try simp only [Act.put, List.setIfInBounds_toArray, List.set_cons_zero, List.set_cons_succ]
            refine wpT_call (List.getElem?_toArray.trans (by rfl)) (by rfl) (fun K hK => ?_) ?_
            · skip
              go_simp
              go_at_call 23
              refine (rtake_tab _ _ _ _ _ _ us rs _ _ (rd_bel h2 (bel_drew hx) rfl hS6) (rd_bel h3 (bel_drew hx) rfl hS7) h4).mono ?_
              rintro e w1 ⟨A5, c5, B5, c5', n5, h5', er, rfl, hG5, hE5⟩; have hz5 := hE5.size_le; (try simp at hz5); try (replace hk5 := hk5.ext hE5)
              refine hK _ _ (((hE5.but _)).bel _) ?_
              clear hK
              intro hr
              replace hx := hx.trans hr
              clear hr
              try simp only [Act.put, List.setIfInBounds_toArray, List.set_cons_zero, List.set_cons_succ]
              first
                | (refine wpT_takeN hx (by simp) (v := ?_) (List.getElem?_toArray.trans (by rfl)) (by rfl) (fun _ hc => ?_) ?_
                   rotate_left
                   focus (go_simp; (try go_ints); exact rfl)
                   simp only [Act.put, List.setIfInBounds_toArray, List.set_cons_zero, List.set_cons_succ])
                | (refine wpT_skip (List.getElem?_toArray.trans (by rfl)) (by rfl) ?_; simp only [Act.put, List.setIfInBounds_toArray, List.set_cons_zero, List.set_cons_succ])
              first
                | (refine wpT_takeN hx (by simp) (v := ?_) (List.getElem?_toArray.trans (by rfl)) (by rfl) (fun _ hc => ?_) ?_
                   rotate_left
                   focus (go_simp; (try go_ints); exact rfl)
                   simp only [Act.put, List.setIfInBounds_toArray, List.set_cons_zero, List.set_cons_succ])
                | (refine wpT_skip (List.getElem?_toArray.trans (by rfl)) (by rfl) ?_; simp only [Act.put, List.setIfInBounds_toArray, List.set_cons_zero, List.set_cons_succ])
              first
                | (refine wpT_takeN hx (by simp) (v := ?_) (List.getElem?_toArray.trans (by rfl)) (by rfl) (fun _ hc => ?_) ?_
                   rotate_left
                   focus (go_simp; (try go_ints); exact rfl)
                   simp only [Act.put, List.setIfInBounds_toArray, List.set_cons_zero, List.set_cons_succ])
                | (refine wpT_skip (List.getElem?_toArray.trans (by rfl)) (by rfl) ?_; simp only [Act.put, List.setIfInBounds_toArray, List.set_cons_zero, List.set_cons_succ])
              first
                | (refine wpT_takeN hx (by simp) (v := ?_) (List.getElem?_toArray.trans (by rfl)) (by rfl) (fun _ hc => ?_) ?_
                   rotate_left
                   focus (go_simp; (try go_ints); exact rfl)
                   simp only [Act.put, List.setIfInBounds_toArray, List.set_cons_zero, List.set_cons_succ])
                | (refine wpT_skip (List.getElem?_toArray.trans (by rfl)) (by rfl) ?_; simp only [Act.put, List.setIfInBounds_toArray, List.set_cons_zero, List.set_cons_succ])
              refine wpT_call (List.getElem?_toArray.trans (by rfl)) (by rfl) (fun K hK => ?_) ?_
              · skip
                try (have hc5 := hk5.cell; have hf5 := hk5.froz)
                go_simp
                first | (refine hK _ _ ?_ ?_; (focus ((repeat (first | (with_reducible exact Bel.refl _ _ _) | assumption | (with_reducible exact Bel.alloc1 (by first | assumption | omega | (simp; omega))) | (with_reducible refine Bel.drew ?_) | (with_reducible refine Bel.drewL ?_) | (with_reducible refine Bel.setCell ?_ ?_ _; rotate_left; (focus (first | omega | (simp; done) | (simp; omega)))) | (with_reducible refine Bel.alloc ?_ _))); done))) | (refine hK undef _ ?_ ?_; (focus ((repeat (first | (with_reducible exact Bel.refl _ _ _) | assumption | (with_reducible exact Bel.alloc1 (by first | assumption | omega | (simp; omega))) | (with_reducible refine Bel.drew ?_) | (with_reducible refine Bel.drewL ?_) | (with_reducible refine Bel.setCell ?_ ?_ _; rotate_left; (focus (first | omega | (simp; done) | (simp; omega)))) | (with_reducible refine Bel.alloc ?_ _))); done)))
                clear hK
                intro hr
                replace hx := hx.trans hr
                clear hr
                try simp only [Act.put, List.setIfInBounds_toArray, List.set_cons_zero, List.set_cons_succ]
                first
                  | (refine wpT_takeN hx (by simp) (v := ?_) (List.getElem?_toArray.trans (by rfl)) (by rfl) (fun _ hc => ?_) ?_
                     rotate_left
                     focus (go_simp; (try go_ints); exact rfl)
                     simp only [Act.put, List.setIfInBounds_toArray, List.set_cons_zero, List.set_cons_succ])
                  | (refine wpT_skip (List.getElem?_toArray.trans (by rfl)) (by rfl) ?_; simp only [Act.put, List.setIfInBounds_toArray, List.set_cons_zero, List.set_cons_succ])
                first
                  | (refine wpT_takeN hx (by simp) (v := ?_) (List.getElem?_toArray.trans (by rfl)) (by rfl) (fun _ hc => ?_) ?_
                     rotate_left
                     focus (go_simp; (try go_ints); exact rfl)
                     simp only [Act.put, List.setIfInBounds_toArray, List.set_cons_zero, List.set_cons_succ])
                  | (refine wpT_skip (List.getElem?_toArray.trans (by rfl)) (by rfl) ?_; simp only [Act.put, List.setIfInBounds_toArray, List.set_cons_zero, List.set_cons_succ])
                refine wpT_done ?_
                go_wp2
                go_meet
                refine ⟨_, h5', er, A5, B5, n5, c5, c5', rfl, rfl, rfl, ?_⟩
                first
                  | (refine fin5 hLr hx (hdk.ext (by (repeat (first | (with_reducible exact Ext.refl _) | assumption | (with_reducible refine Ext.alloc ?_ _) | (with_reducible refine Ext.drew ?_) | (with_reducible refine Ext.drewL ?_) | refine Ext.trans ?_ (by assumption))))) ?_ (Blk.new rfl) hG5 ?_ ?_ ?_ hxl hdl hxx; (focus (exact (Ext.alloc (Ext.refl _) _).but _)); all_goals (first | omega | (simp; done) | (simp; omega)))
                  | (refine fin5 hLr hx (hdk.ext (by (repeat (first | (with_reducible exact Ext.refl _) | assumption | (with_reducible refine Ext.alloc ?_ _) | (with_reducible refine Ext.drew ?_) | (with_reducible refine Ext.drewL ?_) | refine Ext.trans ?_ (by assumption))))) ?_ ((hk5.set_ 0 _).set_ 1 _) hG5 ?_ ?_ ?_ hxl hdl hxx; (focus (exact But.setCell (But.setCell (But.refl _ _) (by simp) _) (by simp) _)); all_goals (first | omega | (simp; done) | (simp; omega)))
              exact wpT_none
            exact wpT_none
          exact wpT_none
        refine wpT_call (List.getElem?_toArray.trans (by rfl)) (by rfl) (fun K hK => ?_) ?_
        · skip
          
          go_simp
          first | (refine hK _ _ ?_ ?_; (focus ((repeat (first | (with_reducible exact Bel.refl _ _ _) | assumption | (with_reducible exact Bel.alloc1 (by first | assumption | omega | (simp; omega))) | (with_reducible refine Bel.drew ?_) | (with_reducible refine Bel.drewL ?_) | (with_reducible refine Bel.setCell ?_ ?_ _; rotate_left; (focus (first | omega | (simp; done) | (simp; omega)))) | (with_reducible refine Bel.alloc ?_ _))); done))) | (refine hK undef _ ?_ ?_; (focus ((repeat (first | (with_reducible exact Bel.refl _ _ _) | assumption | (with_reducible exact Bel.alloc1 (by first | assumption | omega | (simp; omega))) | (with_reducible refine Bel.drew ?_) | (with_reducible refine Bel.drewL ?_) | (with_reducible refine Bel.setCell ?_ ?_ _; rotate_left; (focus (first | omega | (simp; done) | (simp; omega)))) | (with_reducible refine Bel.alloc ?_ _))); done)))
          clear hK
          intro hr
          (try have hk5 := blk_of_bel hr); (try have hk5 := blk_of_bel2 hr)
          replace hx := hx.trans hr
          clear hr
          try simp only [Act.put, List.setIfInBounds_toArray, List.set_cons_zero, List.set_cons_succ]
          refine wpT_call (List.getElem?_toArray.trans (by rfl)) (by rfl) (fun K hK => ?_) ?_
          · skip
            go_simp
            go_at_call 11
            refine (next_any d 50 _ (hdw.ext (by (repeat (first | (with_reducible exact Ext.refl _) | assumption | (with_reducible refine Ext.alloc ?_ _) | (with_reducible refine Ext.drew ?_) | (with_reducible refine Ext.drewL ?_) | refine Ext.trans ?_ (by assumption))))) (by omega) (by omega)).mono ?_
            rintro e w1 ⟨z, rfl, hz0, hz1, hdk, hb⟩; have hz := hb.size; (try simp at hz); try (replace hk5 := hk5.but hb (by simp; omega))
            refine hK _ _ ((hb).bel _) ?_
            clear hK
            intro hr
            replace hx := hx.trans hr
            clear hr
            try simp only [Act.put, List.setIfInBounds_toArray, List.set_cons_zero, List.set_cons_succ]
            first
              | (refine wpT_takeN hx (by simp) (v := ?_) (List.getElem?_toArray.trans (by rfl)) (by rfl) (fun _ hc => ?_) ?_
                 rotate_left
                 focus (go_simp; (try go_ints); exact rfl)
                 simp only [Act.put, List.setIfInBounds_toArray, List.set_cons_zero, List.set_cons_succ])
              | (refine wpT_skip (List.getElem?_toArray.trans (by rfl)) (by rfl) ?_; simp only [Act.put, List.setIfInBounds_toArray, List.set_cons_zero, List.set_cons_succ])
            refine wpT_call (List.getElem?_toArray.trans (by rfl)) (by rfl) (fun K hK => ?_) ?_
            · skip
              go_simp
              go_at_call 23
              refine (rtake_tab _ _ _ _ _ _ us rs _ _ (rd_bel h2 (bel_drew hx) rfl hS6) (rd_bel h3 (bel_drew hx) rfl hS7) h4).mono ?_
              rintro e w1 ⟨A5, c5, B5, c5', n5, h5', er, rfl, hG5, hE5⟩; have hz5 := hE5.size_le; (try simp at hz5); try (replace hk5 := hk5.ext hE5)
              refine hK _ _ (((hE5.but _)).bel _) ?_
              clear hK
              intro hr
              replace hx := hx.trans hr
              clear hr
              try simp only [Act.put, List.setIfInBounds_toArray, List.set_cons_zero, List.set_cons_succ]
              first
                | (refine wpT_takeN hx (by simp) (v := ?_) (List.getElem?_toArray.trans (by rfl)) (by rfl) (fun _ hc => ?_) ?_
                   rotate_left
                   focus (go_simp; (try go_ints); exact rfl)
                   simp only [Act.put, List.setIfInBounds_toArray, List.set_cons_zero, List.set_cons_succ])
                | (refine wpT_skip (List.getElem?_toArray.trans (by rfl)) (by rfl) ?_; simp only [Act.put, List.setIfInBounds_toArray, List.set_cons_zero, List.set_cons_succ])
              first
                | (refine wpT_takeN hx (by simp) (v := ?_) (List.getElem?_toArray.trans (by rfl)) (by rfl) (fun _ hc => ?_) ?_
                   rotate_left
                   focus (go_simp; (try go_ints); exact rfl)
                   simp only [Act.put, List.setIfInBounds_toArray, List.set_cons_zero, List.set_cons_succ])
                | (refine wpT_skip (List.getElem?_toArray.trans (by rfl)) (by rfl) ?_; simp only [Act.put, List.setIfInBounds_toArray, List.set_cons_zero, List.set_cons_succ])
              first
                | (refine wpT_takeN hx (by simp) (v := ?_) (List.getElem?_toArray.trans (by rfl)) (by rfl) (fun _ hc => ?_) ?_
                   rotate_left
                   focus (go_simp; (try go_ints); exact rfl)
                   simp only [Act.put, List.setIfInBounds_toArray, List.set_cons_zero, List.set_cons_succ])
                | (refine wpT_skip (List.getElem?_toArray.trans (by rfl)) (by rfl) ?_; simp only [Act.put, List.setIfInBounds_toArray, List.set_cons_zero, List.set_cons_succ])
              first
                | (refine wpT_takeN hx (by simp) (v := ?_) (List.getElem?_toArray.trans (by rfl)) (by rfl) (fun _ hc => ?_) ?_
                   rotate_left
                   focus (go_simp; (try go_ints); exact rfl)
                   simp only [Act.put, List.setIfInBounds_toArray, List.set_cons_zero, List.set_cons_succ])
                | (refine wpT_skip (List.getElem?_toArray.trans (by rfl)) (by rfl) ?_; simp only [Act.put, List.setIfInBounds_toArray, List.set_cons_zero, List.set_cons_succ])
              refine wpT_call (List.getElem?_toArray.trans (by rfl)) (by rfl) (fun K hK => ?_) ?_
              · skip
                try (have hc5 := hk5.cell; have hf5 := hk5.froz)
                go_simp
                first | (refine hK _ _ ?_ ?_; (focus ((repeat (first | (with_reducible exact Bel.refl _ _ _) | assumption | (with_reducible exact Bel.alloc1 (by first | assumption | omega | (simp; omega))) | (with_reducible refine Bel.drew ?_) | (with_reducible refine Bel.drewL ?_) | (with_reducible refine Bel.setCell ?_ ?_ _; rotate_left; (focus (first | omega | (simp; done) | (simp; omega)))) | (with_reducible refine Bel.alloc ?_ _))); done))) | (refine hK undef _ ?_ ?_; (focus ((repeat (first | (with_reducible exact Bel.refl _ _ _) | assumption | (with_reducible exact Bel.alloc1 (by first | assumption | omega | (simp; omega))) | (with_reducible refine Bel.drew ?_) | (with_reducible refine Bel.drewL ?_) | (with_reducible refine Bel.setCell ?_ ?_ _; rotate_left; (focus (first | omega | (simp; done) | (simp; omega)))) | (with_reducible refine Bel.alloc ?_ _))); done)))
                clear hK
                intro hr
                replace hx := hx.trans hr
                clear hr
                try simp only [Act.put, List.setIfInBounds_toArray, List.set_cons_zero, List.set_cons_succ]
                first
                  | (refine wpT_takeN hx (by simp) (v := ?_) (List.getElem?_toArray.trans (by rfl)) (by rfl) (fun _ hc => ?_) ?_
                     rotate_left
                     focus (go_simp; (try go_ints); exact rfl)
                     simp only [Act.put, List.setIfInBounds_toArray, List.set_cons_zero, List.set_cons_succ])
                  | (refine wpT_skip (List.getElem?_toArray.trans (by rfl)) (by rfl) ?_; simp only [Act.put, List.setIfInBounds_toArray, List.set_cons_zero, List.set_cons_succ])
                first
                  | (refine wpT_takeN hx (by simp) (v := ?_) (List.getElem?_toArray.trans (by rfl)) (by rfl) (fun _ hc => ?_) ?_
                     rotate_left
                     focus (go_simp; (try go_ints); exact rfl)
                     simp only [Act.put, List.setIfInBounds_toArray, List.set_cons_zero, List.set_cons_succ])
                  | (refine wpT_skip (List.getElem?_toArray.trans (by rfl)) (by rfl) ?_; simp only [Act.put, List.setIfInBounds_toArray, List.set_cons_zero, List.set_cons_succ])
                refine wpT_done ?_
                go_wp2
                go_meet
                refine ⟨_, h5', er, A5, B5, n5, c5, c5', rfl, rfl, rfl, ?_⟩
                first
                  | (refine fin5 hLr hx (hdk.ext (by (repeat (first | (with_reducible exact Ext.refl _) | assumption | (with_reducible refine Ext.alloc ?_ _) | (with_reducible refine Ext.drew ?_) | (with_reducible refine Ext.drewL ?_) | refine Ext.trans ?_ (by assumption))))) ?_ (Blk.new rfl) hG5 ?_ ?_ ?_ hxl hdl hxx; (focus (exact (Ext.alloc (Ext.refl _) _).but _)); all_goals (first | omega | (simp; done) | (simp; omega)))
                  | (refine fin5 hLr hx (hdk.ext (by (repeat (first | (with_reducible exact Ext.refl _) | assumption | (with_reducible refine Ext.alloc ?_ _) | (with_reducible refine Ext.drew ?_) | (with_reducible refine Ext.drewL ?_) | refine Ext.trans ?_ (by assumption))))) ?_ ((hk5.set_ 0 _).set_ 1 _) hG5 ?_ ?_ ?_ hxl hdl hxx; (focus (exact But.setCell (But.setCell (But.refl _ _) (by simp) _) (by simp) _)); all_goals (first | omega | (simp; done) | (simp; omega)))
              exact wpT_none
            exact wpT_none
          exact wpT_none
        exact wpT_none
      case rest =>
        obtain ⟨b5, h5, er, A5, B5, n5, c5, c5', rfl, rfl, rfl, hL5, hk5, hb5, hG⟩ := hcut
        clear hLr hr ht' h1 h2 h3 hc hf hbw hdw hxl hS6 hS7
        go_upto_if 27 with fail
        go_cut [] (fun wr => Lp w d x wr)
        case first =>
          have hcx := hL5.1
          by_cases he : er = 0
          · subst he
            obtain ⟨g4, g4', us4, rs4, rfl, rfl, rfl, k1, k2, k3, k4, k5, k6, k7⟩ := hG rfl
            obtain ⟨g6, g6', c6, c6', us6, rs6, h61, h62⟩ := hcx
            have hc5 := hk5.cell
            have hcx := h61.cell
            have hfx := h61.froz
            go_wp2
            go_meet
            exact lp_store hL5 k1 k2 k3 k4 k5 k6 k7 hdx hxx
          · have hb : (er == 0) = false := by simpa using he
            clear hG he
            go_wp2
            go_meet
            exact hL5
        case rest =>
          go_upto_if 31 with (go_at_call 11; refine (next_any d 3 _ hcut.2.2.1 (by omega) (by omega)).mono ?_; rintro e w4 ⟨z3, rfl, hz30, hz33, hD4, hB4⟩)
          have hL4 : Lp w d x w4 := hcut.next hB4 hD4 hdl hdx
          clear hcut hk5 hG hL5
          by_cases hz3 : z3 = 0
          · subst hz3
            have hLr := hL4
            obtain ⟨ht, hr, hdw, hbw⟩ := hL4
            have hww := hbw.size
            obtain ⟨g3, g3', c3, c3', us, rs, h1, h2, h3, h4, h5, h5', h6, h7⟩ := ht
            have hc := h1.cell
            have hf := h1.froz
            have hxl := h1.lt
            have hS6 : ∀ ad, some (⟨g3, 0, none⟩ : Addr) = some ad → ad.block ∉ [d] := fun ad ha => by injection ha with ha; subst ha; simp; omega
            have hS7 : ∀ ad, some (⟨g3', 0, none⟩ : Addr) = some ad → ad.block ∉ [d] := fun ad ha => by injection ha with ha; subst ha; simp; omega
            clear hz30 hz33
            go_upto_region 9 with fail
            go_cut [8, 9] from 13 to 42 (fun s8 s9 wr => ∃ (b5 : Nat) (er : Int) (A B : Option Addr) (n c c' : Nat), s8 = .pointer (some ⟨b5, 0, none⟩) ∧ s9 = .int .i64 er ∧ Lp w d x wr ∧ Blk wr b5 30 #[.slice A n c, .slice B n c'] ∧ b5 ≠ x ∧ G2 wr w.heap.size x A B n er)
            case first =>
              refine wp_region_treeN (w4.heap.size) [d] (.take 0 (.take 1 (.alt 2 (.take 3 (.alt 4 (.take 5 (.take 6 (.take 7 (.alt 8 (.alt 9 (.take 10 .done) .none) .none)))) (.alt 8 (.alt 4 (.take 5 (.take 6 (.take 7 (.alt 9 (.take 10 .done) .none)))) .none) .none))) (.alt 8 (.alt 2 (.take 3 (.alt 4 (.take 5 (.take 6 (.take 7 (.alt 9 (.take 10 .done) .none)))) .none)) .none) .none)))) Try.mixed (by kernel_rfl) ?_
              intro hx
              first
                | (refine wpT_takeN hx (by simp) (v := ?_) (List.getElem?_toArray.trans (by rfl)) (by rfl) (fun _ hc => ?_) ?_
                   rotate_left
                   focus (go_simp; (try go_ints); exact rfl)
                   simp only [Act.put, List.setIfInBounds_toArray, List.set_cons_zero, List.set_cons_succ])
                | (refine wpT_skip (List.getElem?_toArray.trans (by rfl)) (by rfl) ?_; simp only [Act.put, List.setIfInBounds_toArray, List.set_cons_zero, List.set_cons_succ])
              first
                | (refine wpT_takeN hx (by simp) (v := ?_) (List.getElem?_toArray.trans (by rfl)) (by rfl) (fun _ hc => ?_) ?_
                   rotate_left
                   focus (go_simp; (try go_ints); exact rfl)
                   simp only [Act.put, List.setIfInBounds_toArray, List.set_cons_zero, List.set_cons_succ])
                | (refine wpT_skip (List.getElem?_toArray.trans (by rfl)) (by rfl) ?_; simp only [Act.put, List.setIfInBounds_toArray, List.set_cons_zero, List.set_cons_succ])
              refine wpT_call (List.getElem?_toArray.trans (by rfl)) (by rfl) (fun K hK => ?_) ?_
              · skip
                go_simp
                go_at_call 11
                refine (next_any d 32 _ (hdw.ext (by (repeat (first | (with_reducible exact Ext.refl _) | assumption | (with_reducible refine Ext.alloc ?_ _) | (with_reducible refine Ext.drew ?_) | (with_reducible refine Ext.drewL ?_) | refine Ext.trans ?_ (by assumption))))) (by omega) (by omega)).mono ?_
                rintro e w1 ⟨z, rfl, hz0, hz1, hdk, hb⟩; have hz := hb.size; (try simp at hz); try (replace hk5 := hk5.but hb (by simp; omega))
                refine hK _ _ ((hb).bel _) ?_
                clear hK
                intro hr
                replace hx := hx.trans hr
                clear hr
                try simp only [Act.put, List.setIfInBounds_toArray, List.set_cons_zero, List.set_cons_succ]
                first
                  | (refine wpT_takeN hx (by simp) (v := ?_) (List.getElem?_toArray.trans (by rfl)) (by rfl) (fun _ hc => ?_) ?_
                     rotate_left
                     focus (go_simp; (try go_ints); exact rfl)
                     simp only [Act.put, List.setIfInBounds_toArray, List.set_cons_zero, List.set_cons_succ])
                  | (refine wpT_skip (List.getElem?_toArray.trans (by rfl)) (by rfl) ?_; simp only [Act.put, List.setIfInBounds_toArray, List.set_cons_zero, List.set_cons_succ])
                refine wpT_call (List.getElem?_toArray.trans (by rfl)) (by rfl) (fun K hK => ?_) ?_
                · skip
                  go_simp
                  go_at_call 28
                  refine (rdrop_tab _ _ _ _ _ _ us rs _ _ (rd_bel h2 (bel_drew hx) rfl hS6) (rd_bel h3 (bel_drew hx) rfl hS7) h4).mono ?_
                  rintro e w1 ⟨A5, c5, B5, c5', n5, er, rfl, hG5, hE5⟩; have hz5 := hE5.size_le; (try simp at hz5); try (replace hk5 := hk5.ext hE5)
                  refine hK _ _ (((hE5.but _)).bel _) ?_
                  clear hK
                  intro hr
                  replace hx := hx.trans hr
                  clear hr
                  try simp only [Act.put, List.setIfInBounds_toArray, List.set_cons_zero, List.set_cons_succ]
                  first
                    | (refine wpT_takeN hx (by simp) (v := ?_) (List.getElem?_toArray.trans (by rfl)) (by rfl) (fun _ hc => ?_) ?_
                       rotate_left
                       focus (go_simp; (try go_ints); exact rfl)
                       simp only [Act.put, List.setIfInBounds_toArray, List.set_cons_zero, List.set_cons_succ])
                    | (refine wpT_skip (List.getElem?_toArray.trans (by rfl)) (by rfl) ?_; simp only [Act.put, List.setIfInBounds_toArray, List.set_cons_zero, List.set_cons_succ])
                  first
                    | (refine wpT_takeN hx (by simp) (v := ?_) (List.getElem?_toArray.trans (by rfl)) (by rfl) (fun _ hc => ?_) ?_
                       rotate_left
                       focus (go_simp; (try go_ints); exact rfl)
                       simp only [Act.put, List.setIfInBounds_toArray, List.set_cons_zero, List.set_cons_succ])
                    | (refine wpT_skip (List.getElem?_toArray.trans (by rfl)) (by rfl) ?_; simp only [Act.put, List.setIfInBounds_toArray, List.set_cons_zero, List.set_cons_succ])
                  first
                    | (refine wpT_takeN hx (by simp) (v := ?_) (List.getElem?_toArray.trans (by rfl)) (by rfl) (fun _ hc => ?_) ?_
                       rotate_left
                       focus (go_simp; (try go_ints); exact rfl)
                       simp only [Act.put, List.setIfInBounds_toArray, List.set_cons_zero, List.set_cons_succ])
                    | (refine wpT_skip (List.getElem?_toArray.trans (by rfl)) (by rfl) ?_; simp only [Act.put, List.setIfInBounds_toArray, List.set_cons_zero, List.set_cons_succ])
                  refine wpT_call (List.getElem?_toArray.trans (by rfl)) (by rfl) (fun K hK => ?_) ?_
                  · skip
                    
                    go_simp
                    first | (refine hK _ _ ?_ ?_; (focus ((repeat (first | (with_reducible exact Bel.refl _ _ _) | assumption | (with_reducible exact Bel.alloc1 (by first | assumption | omega | (simp; omega))) | (with_reducible refine Bel.drew ?_) | (with_reducible refine Bel.drewL ?_) | (with_reducible refine Bel.setCell ?_ ?_ _; rotate_left; (focus (first | omega | (simp; done) | (simp; omega)))) | (with_reducible refine Bel.alloc ?_ _))); done))) | (refine hK undef _ ?_ ?_; (focus ((repeat (first | (with_reducible exact Bel.refl _ _ _) | assumption | (with_reducible exact Bel.alloc1 (by first | assumption | omega | (simp; omega))) | (with_reducible refine Bel.drew ?_) | (with_reducible refine Bel.drewL ?_) | (with_reducible refine Bel.setCell ?_ ?_ _; rotate_left; (focus (first | omega | (simp; done) | (simp; omega)))) | (with_reducible refine Bel.alloc ?_ _))); done)))
                    clear hK
                    intro hr
                    (try have hk5 := blk_of_bel hr); (try have hk5 := blk_of_bel2 hr)
                    replace hx := hx.trans hr
                    clear hr
                    try simp only [Act.put, List.setIfInBounds_toArray, List.set_cons_zero, List.set_cons_succ]
                    refine wpT_call (List.getElem?_toArray.trans (by rfl)) (by rfl) (fun K hK => ?_) ?_
                    · skip
                      try (have hc5 := hk5.cell; have hf5 := hk5.froz)
                      go_simp
                      first | (refine hK _ _ ?_ ?_; (focus ((repeat (first | (with_reducible exact Bel.refl _ _ _) | assumption | (with_reducible exact Bel.alloc1 (by first | assumption | omega | (simp; omega))) | (with_reducible refine Bel.drew ?_) | (with_reducible refine Bel.drewL ?_) | (with_reducible refine Bel.setCell ?_ ?_ _; rotate_left; (focus (first | omega | (simp; done) | (simp; omega)))) | (with_reducible refine Bel.alloc ?_ _))); done))) | (refine hK undef _ ?_ ?_; (focus ((repeat (first | (with_reducible exact Bel.refl _ _ _) | assumption | (with_reducible exact Bel.alloc1 (by first | assumption | omega | (simp; omega))) | (with_reducible refine Bel.drew ?_) | (with_reducible refine Bel.drewL ?_) | (with_reducible refine Bel.setCell ?_ ?_ _; rotate_left; (focus (first | omega | (simp; done) | (simp; omega)))) | (with_reducible refine Bel.alloc ?_ _))); done)))
                      clear hK
                      intro hr
                      replace hx := hx.trans hr
                      clear hr
                      try simp only [Act.put, List.setIfInBounds_toArray, List.set_cons_zero, List.set_cons_succ]
                      first
                        | (refine wpT_takeN hx (by simp) (v := ?_) (List.getElem?_toArray.trans (by rfl)) (by rfl) (fun _ hc => ?_) ?_
                           rotate_left
                           focus (go_simp; (try go_ints); exact rfl)
                           simp only [Act.put, List.setIfInBounds_toArray, List.set_cons_zero, List.set_cons_succ])
                        | (refine wpT_skip (List.getElem?_toArray.trans (by rfl)) (by rfl) ?_; simp only [Act.put, List.setIfInBounds_toArray, List.set_cons_zero, List.set_cons_succ])
                      refine wpT_done ?_
                      go_wp2
                      go_meet
                      refine ⟨_, er, A5, B5, n5, c5, c5', rfl, rfl, ?_⟩
                      first
                        | (refine fin5 hLr hx (hdk.ext (by (repeat (first | (with_reducible exact Ext.refl _) | assumption | (with_reducible refine Ext.alloc ?_ _) | (with_reducible refine Ext.drew ?_) | (with_reducible refine Ext.drewL ?_) | refine Ext.trans ?_ (by assumption))))) ?_ (Blk.new rfl) hG5 ?_ ?_ ?_ hxl hdl hxx; (focus (exact (Ext.alloc (Ext.refl _) _).but _)); all_goals (first | omega | (simp; done) | (simp; omega)))
                        | (refine fin5 hLr hx (hdk.ext (by (repeat (first | (with_reducible exact Ext.refl _) | assumption | (with_reducible refine Ext.alloc ?_ _) | (with_reducible refine Ext.drew ?_) | (with_reducible refine Ext.drewL ?_) | refine Ext.trans ?_ (by assumption))))) ?_ ((hk5.set_ 0 _).set_ 1 _) hG5 ?_ ?_ ?_ hxl hdl hxx; (focus (exact But.setCell (But.setCell (But.refl _ _) (by simp) _) (by simp) _)); all_goals (first | omega | (simp; done) | (simp; omega)))
                    exact wpT_none
                  exact wpT_none
                refine wpT_call (List.getElem?_toArray.trans (by rfl)) (by rfl) (fun K hK => ?_) ?_
                · skip
                  
                  go_simp
                  first | (refine hK _ _ ?_ ?_; (focus ((repeat (first | (with_reducible exact Bel.refl _ _ _) | assumption | (with_reducible exact Bel.alloc1 (by first | assumption | omega | (simp; omega))) | (with_reducible refine Bel.drew ?_) | (with_reducible refine Bel.drewL ?_) | (with_reducible refine Bel.setCell ?_ ?_ _; rotate_left; (focus (first | omega | (simp; done) | (simp; omega)))) | (with_reducible refine Bel.alloc ?_ _))); done))) | (refine hK undef _ ?_ ?_; (focus ((repeat (first | (with_reducible exact Bel.refl _ _ _) | assumption | (with_reducible exact Bel.alloc1 (by first | assumption | omega | (simp; omega))) | (with_reducible refine Bel.drew ?_) | (with_reducible refine Bel.drewL ?_) | (with_reducible refine Bel.setCell ?_ ?_ _; rotate_left; (focus (first | omega | (simp; done) | (simp; omega)))) | (with_reducible refine Bel.alloc ?_ _))); done)))
                  clear hK
                  intro hr
                  (try have hk5 := blk_of_bel hr); (try have hk5 := blk_of_bel2 hr)
                  replace hx := hx.trans hr
                  clear hr
                  try simp only [Act.put, List.setIfInBounds_toArray, List.set_cons_zero, List.set_cons_succ]
                  refine wpT_call (List.getElem?_toArray.trans (by rfl)) (by rfl) (fun K hK => ?_) ?_
                  · skip
                    go_simp
                    go_at_call 28
                    refine (rdrop_tab _ _ _ _ _ _ us rs _ _ (rd_bel h2 (bel_drew hx) rfl hS6) (rd_bel h3 (bel_drew hx) rfl hS7) h4).mono ?_
                    rintro e w1 ⟨A5, c5, B5, c5', n5, er, rfl, hG5, hE5⟩; have hz5 := hE5.size_le; (try simp at hz5); try (replace hk5 := hk5.ext hE5)
                    refine hK _ _ (((hE5.but _)).bel _) ?_
                    clear hK
                    intro hr
                    replace hx := hx.trans hr
                    clear hr
                    try simp only [Act.put, List.setIfInBounds_toArray, List.set_cons_zero, List.set_cons_succ]
                    first
                      | (refine wpT_takeN hx (by simp) (v := ?_) (List.getElem?_toArray.trans (by rfl)) (by rfl) (fun _ hc => ?_) ?_
                         rotate_left
                         focus (go_simp; (try go_ints); exact rfl)
                         simp only [Act.put, List.setIfInBounds_toArray, List.set_cons_zero, List.set_cons_succ])
                      | (refine wpT_skip (List.getElem?_toArray.trans (by rfl)) (by rfl) ?_; simp only [Act.put, List.setIfInBounds_toArray, List.set_cons_zero, List.set_cons_succ])
                    first
                      | (refine wpT_takeN hx (by simp) (v := ?_) (List.getElem?_toArray.trans (by rfl)) (by rfl) (fun _ hc => ?_) ?_
                         rotate_left
                         focus (go_simp; (try go_ints); exact rfl)
                         simp only [Act.put, List.setIfInBounds_toArray, List.set_cons_zero, List.set_cons_succ])
                      | (refine wpT_skip (List.getElem?_toArray.trans (by rfl)) (by rfl) ?_; simp only [Act.put, List.setIfInBounds_toArray, List.set_cons_zero, List.set_cons_succ])
                    first
                      | (refine wpT_takeN hx (by simp) (v := ?_) (List.getElem?_toArray.trans (by rfl)) (by rfl) (fun _ hc => ?_) ?_
                         rotate_left
                         focus (go_simp; (try go_ints); exact rfl)
                         simp only [Act.put, List.setIfInBounds_toArray, List.set_cons_zero, List.set_cons_succ])
                      | (refine wpT_skip (List.getElem?_toArray.trans (by rfl)) (by rfl) ?_; simp only [Act.put, List.setIfInBounds_toArray, List.set_cons_zero, List.set_cons_succ])
                    refine wpT_call (List.getElem?_toArray.trans (by rfl)) (by rfl) (fun K hK => ?_) ?_
                    · skip
                      try (have hc5 := hk5.cell; have hf5 := hk5.froz)
                      go_simp
                      first | (refine hK _ _ ?_ ?_; (focus ((repeat (first | (with_reducible exact Bel.refl _ _ _) | assumption | (with_reducible exact Bel.alloc1 (by first | assumption | omega | (simp; omega))) | (with_reducible refine Bel.drew ?_) | (with_reducible refine Bel.drewL ?_) | (with_reducible refine Bel.setCell ?_ ?_ _; rotate_left; (focus (first | omega | (simp; done) | (simp; omega)))) | (with_reducible refine Bel.alloc ?_ _))); done))) | (refine hK undef _ ?_ ?_; (focus ((repeat (first | (with_reducible exact Bel.refl _ _ _) | assumption | (with_reducible exact Bel.alloc1 (by first | assumption | omega | (simp; omega))) | (with_reducible refine Bel.drew ?_) | (with_reducible refine Bel.drewL ?_) | (with_reducible refine Bel.setCell ?_ ?_ _; rotate_left; (focus (first | omega | (simp; done) | (simp; omega)))) | (with_reducible refine Bel.alloc ?_ _))); done)))
                      clear hK
                      intro hr
                      replace hx := hx.trans hr
                      clear hr
                      try simp only [Act.put, List.setIfInBounds_toArray, List.set_cons_zero, List.set_cons_succ]
                      first
                        | (refine wpT_takeN hx (by simp) (v := ?_) (List.getElem?_toArray.trans (by rfl)) (by rfl) (fun _ hc => ?_) ?_
                           rotate_left
                           focus (go_simp; (try go_ints); exact rfl)
                           simp only [Act.put, List.setIfInBounds_toArray, List.set_cons_zero, List.set_cons_succ])
                        | (refine wpT_skip (List.getElem?_toArray.trans (by rfl)) (by rfl) ?_; simp only [Act.put, List.setIfInBounds_toArray, List.set_cons_zero, List.set_cons_succ])
                      refine wpT_done ?_
                      go_wp2
                      go_meet
                      refine ⟨_, er, A5, B5, n5, c5, c5', rfl, rfl, ?_⟩
                      first
                        | (refine fin5 hLr hx (hdk.ext (by (repeat (first | (with_reducible exact Ext.refl _) | assumption | (with_reducible refine Ext.alloc ?_ _) | (with_reducible refine Ext.drew ?_) | (with_reducible refine Ext.drewL ?_) | refine Ext.trans ?_ (by assumption))))) ?_ (Blk.new rfl) hG5 ?_ ?_ ?_ hxl hdl hxx; (focus (exact (Ext.alloc (Ext.refl _) _).but _)); all_goals (first | omega | (simp; done) | (simp; omega)))
                        | (refine fin5 hLr hx (hdk.ext (by (repeat (first | (with_reducible exact Ext.refl _) | assumption | (with_reducible refine Ext.alloc ?_ _) | (with_reducible refine Ext.drew ?_) | (with_reducible refine Ext.drewL ?_) | refine Ext.trans ?_ (by assumption))))) ?_ ((hk5.set_ 0 _).set_ 1 _) hG5 ?_ ?_ ?_ hxl hdl hxx; (focus (exact But.setCell (But.setCell (But.refl _ _) (by simp) _) (by simp) _)); all_goals (first | omega | (simp; done) | (simp; omega)))
                    exact wpT_none
                  exact wpT_none
                exact wpT_none
              refine wpT_call (List.getElem?_toArray.trans (by rfl)) (by rfl) (fun K hK => ?_) ?_
              · skip
                
                go_simp
                first | (refine hK _ _ ?_ ?_; (focus ((repeat (first | (with_reducible exact Bel.refl _ _ _) | assumption | (with_reducible exact Bel.alloc1 (by first | assumption | omega | (simp; omega))) | (with_reducible refine Bel.drew ?_) | (with_reducible refine Bel.drewL ?_) | (with_reducible refine Bel.setCell ?_ ?_ _; rotate_left; (focus (first | omega | (simp; done) | (simp; omega)))) | (with_reducible refine Bel.alloc ?_ _))); done))) | (refine hK undef _ ?_ ?_; (focus ((repeat (first | (with_reducible exact Bel.refl _ _ _) | assumption | (with_reducible exact Bel.alloc1 (by first | assumption | omega | (simp; omega))) | (with_reducible refine Bel.drew ?_) | (with_reducible refine Bel.drewL ?_) | (with_reducible refine Bel.setCell ?_ ?_ _; rotate_left; (focus (first | omega | (simp; done) | (simp; omega)))) | (with_reducible refine Bel.alloc ?_ _))); done)))
                clear hK
                intro hr
                (try have hk5 := blk_of_bel hr); (try have hk5 := blk_of_bel2 hr)
                replace hx := hx.trans hr
                clear hr
                try simp only [Act.put, List.setIfInBounds_toArray, List.set_cons_zero, List.set_cons_succ]
                refine wpT_call (List.getElem?_toArray.trans (by rfl)) (by rfl) (fun K hK => ?_) ?_
                · skip
                  go_simp
                  go_at_call 11
                  refine (next_any d 32 _ (hdw.ext (by (repeat (first | (with_reducible exact Ext.refl _) | assumption | (with_reducible refine Ext.alloc ?_ _) | (with_reducible refine Ext.drew ?_) | (with_reducible refine Ext.drewL ?_) | refine Ext.trans ?_ (by assumption))))) (by omega) (by omega)).mono ?_
                  rintro e w1 ⟨z, rfl, hz0, hz1, hdk, hb⟩; have hz := hb.size; (try simp at hz); try (replace hk5 := hk5.but hb (by simp; omega))
                  refine hK _ _ ((hb).bel _) ?_
                  clear hK
                  intro hr
                  replace hx := hx.trans hr
                  clear hr
                  try simp only [Act.put, List.setIfInBounds_toArray, List.set_cons_zero, List.set_cons_succ]
                  first
                    | (refine wpT_takeN hx (by simp) (v := ?_) (List.getElem?_toArray.trans (by rfl)) (by rfl) (fun _ hc => ?_) ?_
                       rotate_left
                       focus (go_simp; (try go_ints); exact rfl)
                       simp only [Act.put, List.setIfInBounds_toArray, List.set_cons_zero, List.set_cons_succ])
                    | (refine wpT_skip (List.getElem?_toArray.trans (by rfl)) (by rfl) ?_; simp only [Act.put, List.setIfInBounds_toArray, List.set_cons_zero, List.set_cons_succ])
                  refine wpT_call (List.getElem?_toArray.trans (by rfl)) (by rfl) (fun K hK => ?_) ?_
                  · skip
                    go_simp
                    go_at_call 28
                    refine (rdrop_tab _ _ _ _ _ _ us rs _ _ (rd_bel h2 (bel_drew hx) rfl hS6) (rd_bel h3 (bel_drew hx) rfl hS7) h4).mono ?_
                    rintro e w1 ⟨A5, c5, B5, c5', n5, er, rfl, hG5, hE5⟩; have hz5 := hE5.size_le; (try simp at hz5); try (replace hk5 := hk5.ext hE5)
                    refine hK _ _ (((hE5.but _)).bel _) ?_
                    clear hK
                    intro hr
                    replace hx := hx.trans hr
                    clear hr
                    try simp only [Act.put, List.setIfInBounds_toArray, List.set_cons_zero, List.set_cons_succ]
                    first
                      | (refine wpT_takeN hx (by simp) (v := ?_) (List.getElem?_toArray.trans (by rfl)) (by rfl) (fun _ hc => ?_) ?_
                         rotate_left
                         focus (go_simp; (try go_ints); exact rfl)
                         simp only [Act.put, List.setIfInBounds_toArray, List.set_cons_zero, List.set_cons_succ])
                      | (refine wpT_skip (List.getElem?_toArray.trans (by rfl)) (by rfl) ?_; simp only [Act.put, List.setIfInBounds_toArray, List.set_cons_zero, List.set_cons_succ])
                    first
                      | (refine wpT_takeN hx (by simp) (v := ?_) (List.getElem?_toArray.trans (by rfl)) (by rfl) (fun _ hc => ?_) ?_
                         rotate_left
                         focus (go_simp; (try go_ints); exact rfl)
                         simp only [Act.put, List.setIfInBounds_toArray, List.set_cons_zero, List.set_cons_succ])
                      | (refine wpT_skip (List.getElem?_toArray.trans (by rfl)) (by rfl) ?_; simp only [Act.put, List.setIfInBounds_toArray, List.set_cons_zero, List.set_cons_succ])
                    first
                      | (refine wpT_takeN hx (by simp) (v := ?_) (List.getElem?_toArray.trans (by rfl)) (by rfl) (fun _ hc => ?_) ?_
                         rotate_left
                         focus (go_simp; (try go_ints); exact rfl)
                         simp only [Act.put, List.setIfInBounds_toArray, List.set_cons_zero, List.set_cons_succ])
                      | (refine wpT_skip (List.getElem?_toArray.trans (by rfl)) (by rfl) ?_; simp only [Act.put, List.setIfInBounds_toArray, List.set_cons_zero, List.set_cons_succ])
                    refine wpT_call (List.getElem?_toArray.trans (by rfl)) (by rfl) (fun K hK => ?_) ?_
                    · skip
                      try (have hc5 := hk5.cell; have hf5 := hk5.froz)
                      go_simp
                      first | (refine hK _ _ ?_ ?_; (focus ((repeat (first | (with_reducible exact Bel.refl _ _ _) | assumption | (with_reducible exact Bel.alloc1 (by first | assumption | omega | (simp; omega))) | (with_reducible refine Bel.drew ?_) | (with_reducible refine Bel.drewL ?_) | (with_reducible refine Bel.setCell ?_ ?_ _; rotate_left; (focus (first | omega | (simp; done) | (simp; omega)))) | (with_reducible refine Bel.alloc ?_ _))); done))) | (refine hK undef _ ?_ ?_; (focus ((repeat (first | (with_reducible exact Bel.refl _ _ _) | assumption | (with_reducible exact Bel.alloc1 (by first | assumption | omega | (simp; omega))) | (with_reducible refine Bel.drew ?_) | (with_reducible refine Bel.drewL ?_) | (with_reducible refine Bel.setCell ?_ ?_ _; rotate_left; (focus (first | omega | (simp; done) | (simp; omega)))) | (with_reducible refine Bel.alloc ?_ _))); done)))
                      clear hK
                      intro hr
                      replace hx := hx.trans hr
                      clear hr
                      try simp only [Act.put, List.setIfInBounds_toArray, List.set_cons_zero, List.set_cons_succ]
                      first
                        | (refine wpT_takeN hx (by simp) (v := ?_) (List.getElem?_toArray.trans (by rfl)) (by rfl) (fun _ hc => ?_) ?_
                           rotate_left
                           focus (go_simp; (try go_ints); exact rfl)
                           simp only [Act.put, List.setIfInBounds_toArray, List.set_cons_zero, List.set_cons_succ])
                        | (refine wpT_skip (List.getElem?_toArray.trans (by rfl)) (by rfl) ?_; simp only [Act.put, List.setIfInBounds_toArray, List.set_cons_zero, List.set_cons_succ])
                      refine wpT_done ?_
                      go_wp2
                      go_meet
                      refine ⟨_, er, A5, B5, n5, c5, c5', rfl, rfl, ?_⟩
                      first
                        | (refine fin5 hLr hx (hdk.ext (by (repeat (first | (with_reducible exact Ext.refl _) | assumption | (with_reducible refine Ext.alloc ?_ _) | (with_reducible refine Ext.drew ?_) | (with_reducible refine Ext.drewL ?_) | refine Ext.trans ?_ (by assumption))))) ?_ (Blk.new rfl) hG5 ?_ ?_ ?_ hxl hdl hxx; (focus (exact (Ext.alloc (Ext.refl _) _).but _)); all_goals (first | omega | (simp; done) | (simp; omega)))
                        | (refine fin5 hLr hx (hdk.ext (by (repeat (first | (with_reducible exact Ext.refl _) | assumption | (with_reducible refine Ext.alloc ?_ _) | (with_reducible refine Ext.drew ?_) | (with_reducible refine Ext.drewL ?_) | refine Ext.trans ?_ (by assumption))))) ?_ ((hk5.set_ 0 _).set_ 1 _) hG5 ?_ ?_ ?_ hxl hdl hxx; (focus (exact But.setCell (But.setCell (But.refl _ _) (by simp) _) (by simp) _)); all_goals (first | omega | (simp; done) | (simp; omega)))
                    exact wpT_none
                  exact wpT_none
                exact wpT_none
              exact wpT_none
            case rest =>
              obtain ⟨b5, er, A5, B5, n5, c5, c5', rfl, rfl, hL5, hk5, hb5, hG⟩ := hcut
              have hcx := hL5.1
              clear hLr hr h1 h2 h3 hc hf hbw hdw hxl hS6 hS7
              by_cases he : er = 0
              · subst he
                obtain ⟨g4, g4', us4, rs4, rfl, rfl, rfl, k1, k2, k3, k4, k5, k6, k7⟩ := hG rfl
                obtain ⟨g6, g6', c6, c6', us6, rs6, h61, h62⟩ := hcx
                have hc5 := hk5.cell
                have hcx := h61.cell
                have hfx := h61.froz
                have hLs := lp_store hL5 k1 k2 k3 k4 k5 k6 k7 hdx hxx (c := c5) (c' := c5')
                go_wp2
                go_roundw
                case rel => exact ⟨k - 1, by omega, by go_num, hLs⟩
                case measure => simp [intOf]; omega
              · have hb : (er == 0) = false := by simpa using he
                clear hG he
                go_wp2
                go_roundw
                case rel => exact ⟨k - 1, by omega, by go_num, hL5⟩
                case measure => simp [intOf]; omega
          · have hb : (z3 == 0) = false := by simpa using hz3
            clear hz3 hz30 hz33
            go_wp2
            go_roundw
            case rel => exact ⟨k - 1, by omega, by go_num, hL4⟩
            case measure => simp [intOf]; omega
    · have hdec : decide ((0 : Int) < k) = false := by simp; omega
      have hdec' : decide (0 < k) = false := by simp; omega
      obtain ⟨g3, g3', c3, c3', us, rs, h1, h2, h3, h4, h5, h5', h6, h7⟩ := ht
      have hc := h1.cell
      have hf := h1.froz
      have hcr := hr.cell
      have hfr := hr.froz
      go_wp2
      have hB2 : But [w.heap.size] wr ((wr.setCell ⟨w.heap.size, 0, none⟩ (.slice (some ⟨g3, 0, none⟩) 32 c3)).setCell ⟨w.heap.size, 1, none⟩ (.slice (some ⟨g3', 0, none⟩) 32 c3')) := But.setCell (But.setCell (But.refl _ _) (by simp) _) (by simp) _
      refine bodyPost_ret (v := .agg #[.slice (some ⟨g3, 0, none⟩) 32 c3, .slice (some ⟨g3', 0, none⟩) 32 c3']) (by simp [results, Try.results15, go_sem, *]) rfl ⟨g3, g3', c3, c3', us, rs, rfl, h2.but hB2 ?_, h3.but hB2 ?_, h4, hdw.but hB2 (by simp; omega), But.fresh (But.fresh hbw (by simp) _) (by simp) _⟩
      · intro ad ha
        injection ha with ha; subst ha; simp; omega
      · intro ad ha
        injection ha with ha; subst ha; simp; omega
end Go.Proofs.Ytgjgnokfmjeekaa
