/- The walk of the graphs of a deck. Conditions: the ranges that each theorem states. -/
import Derived.Test.YtamghjilcfeheaaMZ
import Derived.Test.YtamghjilcfeheaaY
import Derived.Test.YtamghjilcfeheaaR
namespace Go.Proofs.Ytamghjilcfeheaa
open Go.RowKit Go.Draw

theorem keeps_le {g : Gr} {c : Int} {x : Gr × Int × Int} (h : Keeps g c x) : x.1.ns.length ≤ g.ns.length + 1 := by
  have := h.n
  split at this <;> omega
theorem GRx.sl {S : List Nat} {w : World} {v : Value} {g : Gr} (h : GRx S w v g) : ∃ A a B b C c, v = .agg #[.slice A g.ns.length a, .slice B g.us.length b, .slice C g.rs.length c] := h.rd.sl
structure Ltb (S : List Nat) (n : Nat) : Prop where
  out : ∀ x ∈ S, x < n
theorem Ltb.mono {S : List Nat} {n m : Nat} (h : Ltb S n) (hm : n ≤ m) : Ltb S m := ⟨fun x hx => by have := h.out x hx; omega⟩
/-- what the deck's graph keeps -/
def RetGr (S : List Nat) (w : World) (d : Nat) (r : Ending) (w' : World) : Prop := ∃ v g, r = .returned v ∧ GRx S w' v g ∧ Vld g ∧ g.ns.length ≤ 50 ∧ Dk w' d ∧ But [d] w w'
structure GrSt (S : List Nat) (w : World) (d o : Nat) (vA vB vC : Value) (g : Gr) (wr : World) : Prop where
  gx : GRx (o :: w.heap.size :: S) wr (.agg #[vA, vB, vC]) g
  v : Vld g
  ko : Blk wr o 26 #[vA, vB, vC]
  kn : Blk wr w.heap.size 26 #[.slice none 0 0, .slice none 0 0, .slice none 0 0]
  dk : Dk wr d
  big : But [d] w wr
  ho : w.heap.size < o
theorem GrSt.store {S : List Nat} {w w1 : World} {d o : Nat} {vA vB vC vA' vB' vC' : Value} {g : Gr} (hg : GRx (o :: w.heap.size :: S) w1 (.agg #[vA', vB', vC']) g) (hv : Vld g) (kO : Blk w1 o 26 #[vA, vB, vC]) (kn : Blk w1 w.heap.size 26 #[.slice none 0 0, .slice none 0 0, .slice none 0 0]) (hD : Dk w1 d) (hB : But [d] w w1) (hno : w.heap.size < o) (hd : d < w.heap.size) :
    GrSt S w d o vA' vB' vC' g (((w1.setCell ⟨o, 0, none⟩ vA').setCell ⟨o, 1, none⟩ vB').setCell ⟨o, 2, none⟩ vC') := by
  have hb : But [o] w1 (((w1.setCell ⟨o, 0, none⟩ vA').setCell ⟨o, 1, none⟩ vB').setCell ⟨o, 2, none⟩ vC') := by (repeat (first | (with_reducible exact But.refl _ _) | assumption | (with_reducible refine But.drew ?_) | (with_reducible refine But.drewL ?_) | (with_reducible refine But.setCell ?_ ?_ _; rotate_left; (focus (simp; done))) | (with_reducible refine But.setCellL ?_ ?_; rotate_left; (focus (simp; done))) | (with_reducible refine But.alloc2 ?_ ?_; rotate_left; (focus (simp [World.setCell]; done))) | (with_reducible refine But.allocL ?_ ?_ ?_; rotate_left; (focus (simp; done)); (focus (simp; done))) | (with_reducible refine But.alloc ?_ _)))
  exact ⟨hg.but (But.more hb (by simp)), hv, by simpa using ((kO.set_ 0 vA').set_ 1 vB').set_ 2 vC', kn.but hb (fun hm => by have := List.mem_singleton.1 hm; omega), hD.but hb (fun x hx => by have := List.mem_singleton.1 hx; omega),
    But.fresh (But.fresh (But.fresh hB (by show w.heap.size ≤ o; omega) _) (by show w.heap.size ≤ o; omega) _) (by show w.heap.size ≤ o; omega) _, hno⟩
theorem GrSt.new {S : List Nat} {w wa w1 : World} {d : Nat} {vA vB vC : Value} {qs : List (Value × Value)} (hS : ∀ x ∈ S, x < w.heap.size) (hdS : d ∈ S) (hd : d < w.heap.size)
    (hE : Ext (w.alloc (.cells #[.slice none 0 0, .slice none 0 0, .slice none 0 0] 26)) wa) (hG : GOwn wa (w.alloc (.cells #[.slice none 0 0, .slice none 0 0, .slice none 0 0] 26)).heap.size (w.alloc (.cells #[.slice none 0 0, .slice none 0 0, .slice none 0 0] 26)).heap.size vA vB vC qs newG)
    (hB : But [d] (wa.alloc (.cells #[vA, vB, vC] 26)) w1) (hD : Dk w1 d) : GrSt S w d wa.heap.size vA vB vC newG w1 := by
  have hz := hE.size_le
  simp at hz hG
  have g1 := hG.rdx (S := w.heap.size :: S) (fun x hx => by
    rcases List.mem_cons.1 hx with rfl | hx
    · omega
    · have := hS x hx; omega)
  have g2 := (g1.cons (Nat.le_refl _)).ext (Ext.alloc (Ext.refl _) (.cells #[vA, vB, vC] 26))
  have nd : ∀ {x : Nat}, w.heap.size ≤ x → x ∉ [d] := fun hx hm => by have := List.mem_singleton.1 hm; omega
  have kn : Blk (w.alloc (.cells #[.slice none 0 0, .slice none 0 0, .slice none 0 0] 26)) w.heap.size 26 #[.slice none 0 0, .slice none 0 0, .slice none 0 0] := Blk.new rfl
  exact ⟨g2.but (But.more hB (by simp [hdS])), newG_vld, (Blk.new rfl : Blk (wa.alloc (.cells #[vA, vB, vC] 26)) _ _ _).but hB (nd (by omega)), (Blk.alloc (kn.ext hE) _).but hB (nd (by omega)), hD, ((Ext.alloc ((Ext.alloc (Ext.refl w) _).trans hE) _).but _).trans hB, by omega⟩
set_option maxRecDepth 100000 in
set_option maxHeartbeats 1000000 in
theorem graph8_any (d : Nat) (w : World) {S : List Nat} (hS : ∀ x ∈ S, x < w.heap.size) (hdS : d ∈ S) (hD : Dk w d) : Calls Try.prog 8 #[.pointer (some ⟨d, 0, none⟩)] w (RetGr S w d) := by
  have hdl := hD.lt
  go_enter Try.func8, Try.ntmps8
  go_wp2_with (first | (go_at_call 23; refine (new23_any _).mono ?_; rintro e w1 ⟨vA, vB, vC, qs, rfl, hG, hE⟩; (obtain ⟨A1, a1, rfl⟩ := own_slice hG.nodes); (obtain ⟨B1, b1, rfl⟩ := own_slice hG.used); (obtain ⟨C1, c1, rfl⟩ := own_slice hG.roots)) | (go_at_call 26; refine (next_any d _ _ (hD.ext (by (repeat (first | (with_reducible exact Ext.refl _) | assumption | (with_reducible refine Ext.alloc ?_ _) | (with_reducible refine Ext.drew ?_) | (with_reducible refine Ext.drewL ?_) | refine Ext.trans ?_ (by assumption))))) (by omega) (by omega)).mono ?_; rintro e w1 ⟨x, rfl, hx0, hx1, hDk, hB⟩; have hGS := GrSt.new hS hdS hdl hE hG hB hDk))
  obtain ⟨k0, rfl⟩ : ∃ k : Nat, x = k := ⟨x.toNat, by omega⟩
  have hk0 : k0 ≤ 50 := by omega
  clear hE hG hB hDk
  rename_i wa _ _
  generalize wa.heap.size = o at hGS ⊢
  go_loopw [4] (fun t wr => ∃ (k : Nat) (g : Gr) (A : Option Addr) (a : Nat) (B : Option Addr) (b : Nat) (C : Option Addr) (c : Nat), t = .int .i64 k ∧ GrSt S w d o (.slice A g.ns.length a) (.slice B g.us.length b) (.slice C g.rs.length c) g wr ∧ g.ns.length + k ≤ 50) (fun t _ => (intOf t).toNat)
  case atStart => exact ⟨k0, newG, _, _, _, _, _, _, rfl, hGS, by simp [newG]; omega⟩
  case round =>
    clear hGS hx0 hx1 hk0
    obtain ⟨k, g, A, a, B, b, C, c, rfl, ⟨HG, hvl, kO, kn, HD, HB, hno⟩, hgk⟩ := hrel
    have cO := kO.cell
    have lO := kO.lt
    have hod : o ∉ [d] := fun hm => by have := List.mem_singleton.1 hm; omega
    have hnd : w.heap.size ∉ [d] := fun hm => by have := List.mem_singleton.1 hm; omega
    have e1 : o ≠ d := by omega
    have e2 : d ≠ o := by omega
    by_cases hk : 0 < k
    · obtain ⟨k, rfl⟩ : ∃ k', k = k' + 1 := ⟨k - 1, by omega⟩
      have hdec : decide ((0 : Int) < (k + 1 : Nat)) = true := by first | (simp; done) | (simp; omega)
      have hdec2 : decide ((0 : Int) < (k : Int) + 1) = true := by first | (simp; done) | (simp; omega)
      have hdec' : decide (0 < k + 1) = true := by simp
      have hSb : Ltb (o :: w.heap.size :: S) wr.heap.size := ⟨fun x hx => by
        have := HB.size
        rcases List.mem_cons.1 hx with rfl | hx
        · exact lO
        · rcases List.mem_cons.1 hx with rfl | hx
          · omega
          · have := hS x hx; omega⟩
      have hkb : (k : Int) ≤ 50 := by omega
      go_upto_region 5 with fail
      replace HG := HG.ext (Ext.drew (Ext.refl _))
      replace HD := HD.ext (Ext.drew (Ext.refl _))
      replace HB := HB.trans ((Ext.drew (Ext.refl wr)).but _)
      replace kO := kO.drew
      replace kn := kn.drew
      replace hSb : Ltb _ wr.drew.heap.size := hSb
      refine wp_region_treeB [d, o] (.take 1 (.alt 0 (.alt 2 (.alt 3 (.alt 4 (.take 5 (.take 6 (.take 7 (.alt 8 .done .none)))) .none) .none) .none) (.alt 2 (.alt 0 (.alt 3 (.alt 4 (.take 5 (.take 6 (.take 7 (.alt 8 .done .none)))) .none) .none) (.alt 3 (.alt 0 (.alt 4 (.take 5 (.take 6 (.take 7 (.alt 8 .done .none)))) .none) .none) .none)) .none))) Try.mixed (by kernel_rfl) ?_
      intro hx hy
      first
        | (refine wpT_takeB hx (v := ?_) (List.getElem?_toArray.trans (by rfl)) (by rfl) (fun _ hc => ?_) ?_
           rotate_left
           focus (go_simp; (try go_ints); exact rfl)
           simp only [Act.put, List.setIfInBounds_toArray, List.set_cons_zero, List.set_cons_succ])
        | (refine wpT_skip (List.getElem?_toArray.trans (by rfl)) (by rfl) ?_; simp only [Act.put, List.setIfInBounds_toArray, List.set_cons_zero, List.set_cons_succ])
      refine wpT_call (List.getElem?_toArray.trans (by rfl)) (by rfl) (fun K hK => ?_) ?_
      · skip
        have hcy := Ext.cell hy
        have hfy := Ext.froz hy
        have cO := kO.cell
        go_simp
        first | (refine hK _ _ ?_ ?_; (focus ((repeat (first | (with_reducible exact But.refl _ _) | assumption | (with_reducible refine But.drew ?_) | (with_reducible refine But.drewL ?_) | (with_reducible refine But.setCell ?_ ?_ _; rotate_left; (focus (simp; done))) | (with_reducible refine But.setCellL ?_ ?_; rotate_left; (focus (simp; done))) | (with_reducible refine But.alloc2 ?_ ?_; rotate_left; (focus (simp [World.setCell]; done))) | (with_reducible refine But.allocL ?_ ?_ ?_; rotate_left; (focus (simp; done)); (focus (simp; done))) | (with_reducible refine But.alloc ?_ _))); done))) | (refine hK undef _ ?_ ?_; (focus ((repeat (first | (with_reducible exact But.refl _ _) | assumption | (with_reducible refine But.drew ?_) | (with_reducible refine But.drewL ?_) | (with_reducible refine But.setCell ?_ ?_ _; rotate_left; (focus (simp; done))) | (with_reducible refine But.setCellL ?_ ?_; rotate_left; (focus (simp; done))) | (with_reducible refine But.alloc2 ?_ ?_; rotate_left; (focus (simp [World.setCell]; done))) | (with_reducible refine But.allocL ?_ ?_ ?_; rotate_left; (focus (simp; done)); (focus (simp; done))) | (with_reducible refine But.alloc ?_ _))); done)))
        clear hK
        intro hr
        replace hx := hx.trans hr
        clear hr
        try simp only [Act.put, List.setIfInBounds_toArray, List.set_cons_zero, List.set_cons_succ]
        refine wpT_call (List.getElem?_toArray.trans (by rfl)) (by rfl) (fun K hK => ?_) ?_
        · skip
          have hcy := Ext.cell hy
          have hfy := Ext.froz hy
          have cO := kO.cell
          go_simp
          first | (refine hK _ _ ?_ ?_; (focus ((repeat (first | (with_reducible exact But.refl _ _) | assumption | (with_reducible refine But.drew ?_) | (with_reducible refine But.drewL ?_) | (with_reducible refine But.setCell ?_ ?_ _; rotate_left; (focus (simp; done))) | (with_reducible refine But.setCellL ?_ ?_; rotate_left; (focus (simp; done))) | (with_reducible refine But.alloc2 ?_ ?_; rotate_left; (focus (simp [World.setCell]; done))) | (with_reducible refine But.allocL ?_ ?_ ?_; rotate_left; (focus (simp; done)); (focus (simp; done))) | (with_reducible refine But.alloc ?_ _))); done))) | (refine hK undef _ ?_ ?_; (focus ((repeat (first | (with_reducible exact But.refl _ _) | assumption | (with_reducible refine But.drew ?_) | (with_reducible refine But.drewL ?_) | (with_reducible refine But.setCell ?_ ?_ _; rotate_left; (focus (simp; done))) | (with_reducible refine But.setCellL ?_ ?_; rotate_left; (focus (simp; done))) | (with_reducible refine But.alloc2 ?_ ?_; rotate_left; (focus (simp [World.setCell]; done))) | (with_reducible refine But.allocL ?_ ?_ ?_; rotate_left; (focus (simp; done)); (focus (simp; done))) | (with_reducible refine But.alloc ?_ _))); done)))
          clear hK
          intro hr
          replace hx := hx.trans hr
          clear hr
          try simp only [Act.put, List.setIfInBounds_toArray, List.set_cons_zero, List.set_cons_succ]
          refine wpT_call (List.getElem?_toArray.trans (by rfl)) (by rfl) (fun K hK => ?_) ?_
          · skip
            go_simp
            go_at_call 20
            refine (op20_any d _ g _ HD HG.rd (by have := hvl.lu; omega)).mono ?_
            rintro e w1 ⟨c, a, b, e, rfl, hDk2, hB2⟩; replace HG := HG.but (But.more hB2 (by simp [hdS])); replace kO := kO.but hB2 hod; replace kn := kn.but hB2 hnd; replace HB := HB.trans hB2; replace HD := hDk2; have hSb2 := hSb.mono hB2.size
            refine hK _ _ (But.more hB2 (by simp)) ?_
            clear hK
            intro hr
            replace hx := hx.trans hr
            clear hr
            try simp only [Act.put, List.setIfInBounds_toArray, List.set_cons_zero, List.set_cons_succ]
            refine wpT_call (List.getElem?_toArray.trans (by rfl)) (by rfl) (fun K hK => ?_) ?_
            · skip
              go_simp
              go_at_call 27
              refine (do27_any _ g c a b e _ hSb2.out HG hvl (by omega)).mono ?_
              rintro e w1 ⟨v', rfl, hg2, hE2⟩; replace kO := kO.ext hE2; replace kn := kn.ext hE2; replace HB := HB.trans (hE2.but _); replace HD := HD.ext hE2; (obtain ⟨A2, a2, B2, b2, C2, c2, rfl⟩ := hg2.sl)
              refine hK _ _ (But.more (hE2.but []) (by simp)) ?_
              clear hK
              intro hr
              replace hx := hx.trans hr
              clear hr
              try simp only [Act.put, List.setIfInBounds_toArray, List.set_cons_zero, List.set_cons_succ]
              first
                | (refine wpT_takeB hx (v := ?_) (List.getElem?_toArray.trans (by rfl)) (by rfl) (fun _ hc => ?_) ?_
                   rotate_left
                   focus (go_simp; (try go_ints); exact rfl)
                   simp only [Act.put, List.setIfInBounds_toArray, List.set_cons_zero, List.set_cons_succ])
                | (refine wpT_skip (List.getElem?_toArray.trans (by rfl)) (by rfl) ?_; simp only [Act.put, List.setIfInBounds_toArray, List.set_cons_zero, List.set_cons_succ])
              first
                | (refine wpT_takeB hx (v := ?_) (List.getElem?_toArray.trans (by rfl)) (by rfl) (fun _ hc => ?_) ?_
                   rotate_left
                   focus (go_simp; (try go_ints); exact rfl)
                   simp only [Act.put, List.setIfInBounds_toArray, List.set_cons_zero, List.set_cons_succ])
                | (refine wpT_skip (List.getElem?_toArray.trans (by rfl)) (by rfl) ?_; simp only [Act.put, List.setIfInBounds_toArray, List.set_cons_zero, List.set_cons_succ])
              first
                | (refine wpT_takeB hx (v := ?_) (List.getElem?_toArray.trans (by rfl)) (by rfl) (fun _ hc => ?_) ?_
                   rotate_left
                   focus (go_simp; (try go_ints); exact rfl)
                   simp only [Act.put, List.setIfInBounds_toArray, List.set_cons_zero, List.set_cons_succ])
                | (refine wpT_skip (List.getElem?_toArray.trans (by rfl)) (by rfl) ?_; simp only [Act.put, List.setIfInBounds_toArray, List.set_cons_zero, List.set_cons_succ])
              refine wpT_store (List.getElem?_toArray.trans (by rfl)) rfl (by rfl) (fun K hK => ?_) ?_
              · skip
                have hcy := Ext.cell hy
                have hfy := Ext.froz hy
                have cO := kO.cell; have fO := kO.froz
                go_simp
                refine hK _ ?_ ?_
                focus ((repeat (first | (with_reducible exact But.refl _ _) | assumption | (with_reducible refine But.drew ?_) | (with_reducible refine But.drewL ?_) | (with_reducible refine But.setCell ?_ ?_ _; rotate_left; (focus (simp; done))) | (with_reducible refine But.setCellL ?_ ?_; rotate_left; (focus (simp; done))) | (with_reducible refine But.alloc2 ?_ ?_; rotate_left; (focus (simp [World.setCell]; done))) | (with_reducible refine But.allocL ?_ ?_ ?_; rotate_left; (focus (simp; done)); (focus (simp; done))) | (with_reducible refine But.alloc ?_ _))); done)
                clear hK
                intro hr
                replace hx := hx.trans hr
                clear hr
                try simp only [Act.put, List.setIfInBounds_toArray, List.set_cons_zero, List.set_cons_succ]
                refine wpT_done ?_
                have hkp := doT_keeps hvl c a b e
                have hle := keeps_le hkp
                have hst := GrSt.store hg2 hkp.v kO kn HD HB hno hdl
                generalize doT g c a b e = y at *
                clear hkp hx hcy hfy cO fO
                go_wp2
                go_roundw
                case rel => exact ⟨k, y.1, _, _, _, _, _, _, by go_num, hst, by omega⟩
                case measure => first | (simp [intOf]; done) | (simp [intOf]; omega)
              exact wpT_none
            exact wpT_none
          exact wpT_none
        exact wpT_none
      refine wpT_call (List.getElem?_toArray.trans (by rfl)) (by rfl) (fun K hK => ?_) ?_
      · skip
        have hcy := Ext.cell hy
        have hfy := Ext.froz hy
        have cO := kO.cell
        go_simp
        first | (refine hK _ _ ?_ ?_; (focus ((repeat (first | (with_reducible exact But.refl _ _) | assumption | (with_reducible refine But.drew ?_) | (with_reducible refine But.drewL ?_) | (with_reducible refine But.setCell ?_ ?_ _; rotate_left; (focus (simp; done))) | (with_reducible refine But.setCellL ?_ ?_; rotate_left; (focus (simp; done))) | (with_reducible refine But.alloc2 ?_ ?_; rotate_left; (focus (simp [World.setCell]; done))) | (with_reducible refine But.allocL ?_ ?_ ?_; rotate_left; (focus (simp; done)); (focus (simp; done))) | (with_reducible refine But.alloc ?_ _))); done))) | (refine hK undef _ ?_ ?_; (focus ((repeat (first | (with_reducible exact But.refl _ _) | assumption | (with_reducible refine But.drew ?_) | (with_reducible refine But.drewL ?_) | (with_reducible refine But.setCell ?_ ?_ _; rotate_left; (focus (simp; done))) | (with_reducible refine But.setCellL ?_ ?_; rotate_left; (focus (simp; done))) | (with_reducible refine But.alloc2 ?_ ?_; rotate_left; (focus (simp [World.setCell]; done))) | (with_reducible refine But.allocL ?_ ?_ ?_; rotate_left; (focus (simp; done)); (focus (simp; done))) | (with_reducible refine But.alloc ?_ _))); done)))
        clear hK
        intro hr
        replace hx := hx.trans hr
        clear hr
        try simp only [Act.put, List.setIfInBounds_toArray, List.set_cons_zero, List.set_cons_succ]
        refine wpT_call (List.getElem?_toArray.trans (by rfl)) (by rfl) (fun K hK => ?_) ?_
        · skip
          have hcy := Ext.cell hy
          have hfy := Ext.froz hy
          have cO := kO.cell
          go_simp
          first | (refine hK _ _ ?_ ?_; (focus ((repeat (first | (with_reducible exact But.refl _ _) | assumption | (with_reducible refine But.drew ?_) | (with_reducible refine But.drewL ?_) | (with_reducible refine But.setCell ?_ ?_ _; rotate_left; (focus (simp; done))) | (with_reducible refine But.setCellL ?_ ?_; rotate_left; (focus (simp; done))) | (with_reducible refine But.alloc2 ?_ ?_; rotate_left; (focus (simp [World.setCell]; done))) | (with_reducible refine But.allocL ?_ ?_ ?_; rotate_left; (focus (simp; done)); (focus (simp; done))) | (with_reducible refine But.alloc ?_ _))); done))) | (refine hK undef _ ?_ ?_; (focus ((repeat (first | (with_reducible exact But.refl _ _) | assumption | (with_reducible refine But.drew ?_) | (with_reducible refine But.drewL ?_) | (with_reducible refine But.setCell ?_ ?_ _; rotate_left; (focus (simp; done))) | (with_reducible refine But.setCellL ?_ ?_; rotate_left; (focus (simp; done))) | (with_reducible refine But.alloc2 ?_ ?_; rotate_left; (focus (simp [World.setCell]; done))) | (with_reducible refine But.allocL ?_ ?_ ?_; rotate_left; (focus (simp; done)); (focus (simp; done))) | (with_reducible refine But.alloc ?_ _))); done)))
          clear hK
          intro hr
          replace hx := hx.trans hr
          clear hr
          try simp only [Act.put, List.setIfInBounds_toArray, List.set_cons_zero, List.set_cons_succ]
          refine wpT_call (List.getElem?_toArray.trans (by rfl)) (by rfl) (fun K hK => ?_) ?_
          · skip
            go_simp
            go_at_call 20
            refine (op20_any d _ g _ HD HG.rd (by have := hvl.lu; omega)).mono ?_
            rintro e w1 ⟨c, a, b, e, rfl, hDk2, hB2⟩; replace HG := HG.but (But.more hB2 (by simp [hdS])); replace kO := kO.but hB2 hod; replace kn := kn.but hB2 hnd; replace HB := HB.trans hB2; replace HD := hDk2; have hSb2 := hSb.mono hB2.size
            refine hK _ _ (But.more hB2 (by simp)) ?_
            clear hK
            intro hr
            replace hx := hx.trans hr
            clear hr
            try simp only [Act.put, List.setIfInBounds_toArray, List.set_cons_zero, List.set_cons_succ]
            refine wpT_call (List.getElem?_toArray.trans (by rfl)) (by rfl) (fun K hK => ?_) ?_
            · skip
              go_simp
              go_at_call 27
              refine (do27_any _ g c a b e _ hSb2.out HG hvl (by omega)).mono ?_
              rintro e w1 ⟨v', rfl, hg2, hE2⟩; replace kO := kO.ext hE2; replace kn := kn.ext hE2; replace HB := HB.trans (hE2.but _); replace HD := HD.ext hE2; (obtain ⟨A2, a2, B2, b2, C2, c2, rfl⟩ := hg2.sl)
              refine hK _ _ (But.more (hE2.but []) (by simp)) ?_
              clear hK
              intro hr
              replace hx := hx.trans hr
              clear hr
              try simp only [Act.put, List.setIfInBounds_toArray, List.set_cons_zero, List.set_cons_succ]
              first
                | (refine wpT_takeB hx (v := ?_) (List.getElem?_toArray.trans (by rfl)) (by rfl) (fun _ hc => ?_) ?_
                   rotate_left
                   focus (go_simp; (try go_ints); exact rfl)
                   simp only [Act.put, List.setIfInBounds_toArray, List.set_cons_zero, List.set_cons_succ])
                | (refine wpT_skip (List.getElem?_toArray.trans (by rfl)) (by rfl) ?_; simp only [Act.put, List.setIfInBounds_toArray, List.set_cons_zero, List.set_cons_succ])
              first
                | (refine wpT_takeB hx (v := ?_) (List.getElem?_toArray.trans (by rfl)) (by rfl) (fun _ hc => ?_) ?_
                   rotate_left
                   focus (go_simp; (try go_ints); exact rfl)
                   simp only [Act.put, List.setIfInBounds_toArray, List.set_cons_zero, List.set_cons_succ])
                | (refine wpT_skip (List.getElem?_toArray.trans (by rfl)) (by rfl) ?_; simp only [Act.put, List.setIfInBounds_toArray, List.set_cons_zero, List.set_cons_succ])
              first
                | (refine wpT_takeB hx (v := ?_) (List.getElem?_toArray.trans (by rfl)) (by rfl) (fun _ hc => ?_) ?_
                   rotate_left
                   focus (go_simp; (try go_ints); exact rfl)
                   simp only [Act.put, List.setIfInBounds_toArray, List.set_cons_zero, List.set_cons_succ])
                | (refine wpT_skip (List.getElem?_toArray.trans (by rfl)) (by rfl) ?_; simp only [Act.put, List.setIfInBounds_toArray, List.set_cons_zero, List.set_cons_succ])
              refine wpT_store (List.getElem?_toArray.trans (by rfl)) rfl (by rfl) (fun K hK => ?_) ?_
              · skip
                have hcy := Ext.cell hy
                have hfy := Ext.froz hy
                have cO := kO.cell; have fO := kO.froz
                go_simp
                refine hK _ ?_ ?_
                focus ((repeat (first | (with_reducible exact But.refl _ _) | assumption | (with_reducible refine But.drew ?_) | (with_reducible refine But.drewL ?_) | (with_reducible refine But.setCell ?_ ?_ _; rotate_left; (focus (simp; done))) | (with_reducible refine But.setCellL ?_ ?_; rotate_left; (focus (simp; done))) | (with_reducible refine But.alloc2 ?_ ?_; rotate_left; (focus (simp [World.setCell]; done))) | (with_reducible refine But.allocL ?_ ?_ ?_; rotate_left; (focus (simp; done)); (focus (simp; done))) | (with_reducible refine But.alloc ?_ _))); done)
                clear hK
                intro hr
                replace hx := hx.trans hr
                clear hr
                try simp only [Act.put, List.setIfInBounds_toArray, List.set_cons_zero, List.set_cons_succ]
                refine wpT_done ?_
                have hkp := doT_keeps hvl c a b e
                have hle := keeps_le hkp
                have hst := GrSt.store hg2 hkp.v kO kn HD HB hno hdl
                generalize doT g c a b e = y at *
                clear hkp hx hcy hfy cO fO
                go_wp2
                go_roundw
                case rel => exact ⟨k, y.1, _, _, _, _, _, _, by go_num, hst, by omega⟩
                case measure => first | (simp [intOf]; done) | (simp [intOf]; omega)
              exact wpT_none
            exact wpT_none
          exact wpT_none
        refine wpT_call (List.getElem?_toArray.trans (by rfl)) (by rfl) (fun K hK => ?_) ?_
        · skip
          go_simp
          go_at_call 20
          refine (op20_any d _ g _ HD HG.rd (by have := hvl.lu; omega)).mono ?_
          rintro e w1 ⟨c, a, b, e, rfl, hDk2, hB2⟩; replace HG := HG.but (But.more hB2 (by simp [hdS])); replace kO := kO.but hB2 hod; replace kn := kn.but hB2 hnd; replace HB := HB.trans hB2; replace HD := hDk2; have hSb2 := hSb.mono hB2.size
          refine hK _ _ (But.more hB2 (by simp)) ?_
          clear hK
          intro hr
          replace hx := hx.trans hr
          clear hr
          try simp only [Act.put, List.setIfInBounds_toArray, List.set_cons_zero, List.set_cons_succ]
          refine wpT_call (List.getElem?_toArray.trans (by rfl)) (by rfl) (fun K hK => ?_) ?_
          · skip
            have hcy := Ext.cell hy
            have hfy := Ext.froz hy
            have cO := kO.cell
            go_simp
            first | (refine hK _ _ ?_ ?_; (focus ((repeat (first | (with_reducible exact But.refl _ _) | assumption | (with_reducible refine But.drew ?_) | (with_reducible refine But.drewL ?_) | (with_reducible refine But.setCell ?_ ?_ _; rotate_left; (focus (simp; done))) | (with_reducible refine But.setCellL ?_ ?_; rotate_left; (focus (simp; done))) | (with_reducible refine But.alloc2 ?_ ?_; rotate_left; (focus (simp [World.setCell]; done))) | (with_reducible refine But.allocL ?_ ?_ ?_; rotate_left; (focus (simp; done)); (focus (simp; done))) | (with_reducible refine But.alloc ?_ _))); done))) | (refine hK undef _ ?_ ?_; (focus ((repeat (first | (with_reducible exact But.refl _ _) | assumption | (with_reducible refine But.drew ?_) | (with_reducible refine But.drewL ?_) | (with_reducible refine But.setCell ?_ ?_ _; rotate_left; (focus (simp; done))) | (with_reducible refine But.setCellL ?_ ?_; rotate_left; (focus (simp; done))) | (with_reducible refine But.alloc2 ?_ ?_; rotate_left; (focus (simp [World.setCell]; done))) | (with_reducible refine But.allocL ?_ ?_ ?_; rotate_left; (focus (simp; done)); (focus (simp; done))) | (with_reducible refine But.alloc ?_ _))); done)))
            clear hK
            intro hr
            replace hx := hx.trans hr
            clear hr
            try simp only [Act.put, List.setIfInBounds_toArray, List.set_cons_zero, List.set_cons_succ]
            refine wpT_call (List.getElem?_toArray.trans (by rfl)) (by rfl) (fun K hK => ?_) ?_
            · skip
              go_simp
              go_at_call 27
              refine (do27_any _ g c a b e _ hSb2.out HG hvl (by omega)).mono ?_
              rintro e w1 ⟨v', rfl, hg2, hE2⟩; replace kO := kO.ext hE2; replace kn := kn.ext hE2; replace HB := HB.trans (hE2.but _); replace HD := HD.ext hE2; (obtain ⟨A2, a2, B2, b2, C2, c2, rfl⟩ := hg2.sl)
              refine hK _ _ (But.more (hE2.but []) (by simp)) ?_
              clear hK
              intro hr
              replace hx := hx.trans hr
              clear hr
              try simp only [Act.put, List.setIfInBounds_toArray, List.set_cons_zero, List.set_cons_succ]
              first
                | (refine wpT_takeB hx (v := ?_) (List.getElem?_toArray.trans (by rfl)) (by rfl) (fun _ hc => ?_) ?_
                   rotate_left
                   focus (go_simp; (try go_ints); exact rfl)
                   simp only [Act.put, List.setIfInBounds_toArray, List.set_cons_zero, List.set_cons_succ])
                | (refine wpT_skip (List.getElem?_toArray.trans (by rfl)) (by rfl) ?_; simp only [Act.put, List.setIfInBounds_toArray, List.set_cons_zero, List.set_cons_succ])
              first
                | (refine wpT_takeB hx (v := ?_) (List.getElem?_toArray.trans (by rfl)) (by rfl) (fun _ hc => ?_) ?_
                   rotate_left
                   focus (go_simp; (try go_ints); exact rfl)
                   simp only [Act.put, List.setIfInBounds_toArray, List.set_cons_zero, List.set_cons_succ])
                | (refine wpT_skip (List.getElem?_toArray.trans (by rfl)) (by rfl) ?_; simp only [Act.put, List.setIfInBounds_toArray, List.set_cons_zero, List.set_cons_succ])
              first
                | (refine wpT_takeB hx (v := ?_) (List.getElem?_toArray.trans (by rfl)) (by rfl) (fun _ hc => ?_) ?_
                   rotate_left
                   focus (go_simp; (try go_ints); exact rfl)
                   simp only [Act.put, List.setIfInBounds_toArray, List.set_cons_zero, List.set_cons_succ])
                | (refine wpT_skip (List.getElem?_toArray.trans (by rfl)) (by rfl) ?_; simp only [Act.put, List.setIfInBounds_toArray, List.set_cons_zero, List.set_cons_succ])
              refine wpT_store (List.getElem?_toArray.trans (by rfl)) rfl (by rfl) (fun K hK => ?_) ?_
              · skip
                have hcy := Ext.cell hy
                have hfy := Ext.froz hy
                have cO := kO.cell; have fO := kO.froz
                go_simp
                refine hK _ ?_ ?_
                focus ((repeat (first | (with_reducible exact But.refl _ _) | assumption | (with_reducible refine But.drew ?_) | (with_reducible refine But.drewL ?_) | (with_reducible refine But.setCell ?_ ?_ _; rotate_left; (focus (simp; done))) | (with_reducible refine But.setCellL ?_ ?_; rotate_left; (focus (simp; done))) | (with_reducible refine But.alloc2 ?_ ?_; rotate_left; (focus (simp [World.setCell]; done))) | (with_reducible refine But.allocL ?_ ?_ ?_; rotate_left; (focus (simp; done)); (focus (simp; done))) | (with_reducible refine But.alloc ?_ _))); done)
                clear hK
                intro hr
                replace hx := hx.trans hr
                clear hr
                try simp only [Act.put, List.setIfInBounds_toArray, List.set_cons_zero, List.set_cons_succ]
                refine wpT_done ?_
                have hkp := doT_keeps hvl c a b e
                have hle := keeps_le hkp
                have hst := GrSt.store hg2 hkp.v kO kn HD HB hno hdl
                generalize doT g c a b e = y at *
                clear hkp hx hcy hfy cO fO
                go_wp2
                go_roundw
                case rel => exact ⟨k, y.1, _, _, _, _, _, _, by go_num, hst, by omega⟩
                case measure => first | (simp [intOf]; done) | (simp [intOf]; omega)
              exact wpT_none
            exact wpT_none
          exact wpT_none
        exact wpT_none
      exact wpT_none
    · have hdec : decide ((0 : Int) < k) = false := by simp; omega
      have hdec' : decide (0 < k) = false := by simp; omega
      have cn := kn.cell
      have fn := kn.froz
      have ln := kn.lt
      have kF := ((kn.set_ 0 (.slice A g.ns.length a)).set_ 1 (.slice B g.us.length b)).set_ 2 (.slice C g.rs.length c)
      have cF := kF.cell
      go_wp2
      refine bodyPost_ret (v := .agg #[.slice A g.ns.length a, .slice B g.us.length b, .slice C g.rs.length c]) (by simp [results, Try.results8, go_sem, cF]) rfl ⟨_, g, rfl, ?_, hvl, by omega, ?_, ?_⟩
      · have hb : But (o :: w.heap.size :: S) wr (((wr.setCell ⟨w.heap.size, 0, none⟩ (.slice A g.ns.length a)).setCell ⟨w.heap.size, 1, none⟩ (.slice B g.us.length b)).setCell ⟨w.heap.size, 2, none⟩ (.slice C g.rs.length c)) := by (repeat (first | (with_reducible exact But.refl _ _) | assumption | (with_reducible refine But.drew ?_) | (with_reducible refine But.drewL ?_) | (with_reducible refine But.setCell ?_ ?_ _; rotate_left; (focus (simp; done))) | (with_reducible refine But.setCellL ?_ ?_; rotate_left; (focus (simp; done))) | (with_reducible refine But.alloc2 ?_ ?_; rotate_left; (focus (simp [World.setCell]; done))) | (with_reducible refine But.allocL ?_ ?_ ?_; rotate_left; (focus (simp; done)); (focus (simp; done))) | (with_reducible refine But.alloc ?_ _)))
        exact (HG.but hb).less (fun x hx => by simp [hx])
      · have hb : But [w.heap.size] wr (((wr.setCell ⟨w.heap.size, 0, none⟩ (.slice A g.ns.length a)).setCell ⟨w.heap.size, 1, none⟩ (.slice B g.us.length b)).setCell ⟨w.heap.size, 2, none⟩ (.slice C g.rs.length c)) := by (repeat (first | (with_reducible exact But.refl _ _) | assumption | (with_reducible refine But.drew ?_) | (with_reducible refine But.drewL ?_) | (with_reducible refine But.setCell ?_ ?_ _; rotate_left; (focus (simp; done))) | (with_reducible refine But.setCellL ?_ ?_; rotate_left; (focus (simp; done))) | (with_reducible refine But.alloc2 ?_ ?_; rotate_left; (focus (simp [World.setCell]; done))) | (with_reducible refine But.allocL ?_ ?_ ?_; rotate_left; (focus (simp; done)); (focus (simp; done))) | (with_reducible refine But.alloc ?_ _)))
        exact HD.but hb (fun x hx => by have := List.mem_singleton.1 hx; omega)
      · exact But.fresh (But.fresh (But.fresh HB (by show w.heap.size ≤ w.heap.size; omega) _) (by show w.heap.size ≤ w.heap.size; omega) _) (by show w.heap.size ≤ w.heap.size; omega) _
end Go.Proofs.Ytamghjilcfeheaa
