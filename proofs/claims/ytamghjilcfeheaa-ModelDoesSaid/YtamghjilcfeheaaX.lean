/- The walk of the reference's Do: the live words. Conditions: the ranges that each theorem states. -/
import Derived.Test.YtamghjilcfeheaaKK
import Derived.Test.YtamghjilcfeheaaMU
namespace Go.Proofs.Ytamghjilcfeheaa
open Go.RowKit Go.Draw


theorem liveT_le {g : Gr} (hb : Bd g) : liveT g ≤ 6001000 := by
  have h1 := sum_le hb.2.2.2 (reachL g)
  have h2 := reachL_len g
  have h3 := hb.1
  show sumL g (reachL g) ≤ _
  omega
theorem blk_far3 {w : World} {b n : Nat} {t : TypeId} {cs : Array Value} (h : Blk w b t cs) (hn : b ≠ n) (x y z : Value) : Blk (((w.setCell ⟨n, 0, none⟩ x).setCell ⟨n, 1, none⟩ y).setCell ⟨n, 2, none⟩ z) b t cs :=
  ((h.far (p := ⟨n, 0, none⟩) hn x).far (p := ⟨n, 1, none⟩) hn y).far (p := ⟨n, 2, none⟩) hn z
theorem blk_far2 {w : World} {b n : Nat} {t : TypeId} {cs : Array Value} (h : Blk w b t cs) (hn : b ≠ n) (x y : Value) : Blk ((w.setCell ⟨n, 0, none⟩ x).setCell ⟨n, 1, none⟩ y) b t cs :=
  (h.far (p := ⟨n, 0, none⟩) hn x).far (p := ⟨n, 1, none⟩) hn y
theorem ext_set3 {a w : World} {n : Nat} (h : Ext a w) (hn : a.heap.size ≤ n) (x y z : Value) : Ext a (((w.setCell ⟨n, 0, none⟩ x).setCell ⟨n, 1, none⟩ y).setCell ⟨n, 2, none⟩ z) :=
  Ext.setCell (Ext.setCell (Ext.setCell h (p := ⟨n, 0, none⟩) hn _) (p := ⟨n, 1, none⟩) hn _) (p := ⟨n, 2, none⟩) hn _
theorem ext_set2 {a w : World} {n : Nat} (h : Ext a w) (hn : a.heap.size ≤ n) (x y : Value) : Ext a ((w.setCell ⟨n, 0, none⟩ x).setCell ⟨n, 1, none⟩ y) :=
  Ext.setCell (Ext.setCell h (p := ⟨n, 0, none⟩) hn _) (p := ⟨n, 1, none⟩) hn _
set_option maxRecDepth 100000 in
set_option maxHeartbeats 4000000 in
theorem do27_10 (v : Value) (g : Gr) (a b d : Int) (w : World) {S : List Nat} (hSb : ∀ x ∈ S, x < w.heap.size) (hg0 : GRx S w v g) (hv : Vld g) (hb : Bd g) :
    Calls Try.prog 27 #[v, .agg #[.int .i64 10, .int .i64 a, .int .i64 b, .int .i64 d]] w (RetDo S w (g, 0, (liveT g : Int))) := by
  have hg := hg0.rd
  have hll := liveT_le hb
  obtain ⟨A0, a0, B0, b0, C0, c0, rfl⟩ := hg.sl
  go_enter Try.func27, Try.ntmps27
  go_upto_region 2 with (go_at_call 32; refine (copy_any _ g _ (hg.ext (by (repeat (first | (with_reducible exact Ext.refl _) | assumption | (with_reducible refine Ext.alloc ?_ _) | (with_reducible refine Ext.drew ?_) | (with_reducible refine Ext.drewL ?_) | refine Ext.trans ?_ (by assumption))))) hb).mono ?_; rintro e w1 ⟨vA, vB, vC, qs, rfl, hG, hE1⟩; obtain ⟨A1, a1, rfl⟩ := own_slice hG.nodes; obtain ⟨B1, b1, rfl⟩ := own_slice hG.used; obtain ⟨C1, c1, rfl⟩ := own_slice hG.roots; have kO : Blk (w1.alloc (.cells #[.slice none 0 0, .slice none 0 0, .slice none 0 0] 26)) w1.heap.size 26 #[.slice none 0 0, .slice none 0 0, .slice none 0 0] := Blk.new rfl; have cO := kO.cell; have fO := kO.froz)
  clear kO cO fO
  have hS := do_start hg hE1 hG
  clear hE1 hG hg
  obtain ⟨k2, k3, k4, k5, kO, hG, hg, hE, hlo, hhi⟩ := hS
  generalize hW : w1.alloc (.cells #[.slice A1 g.ns.length a1, .slice B1 g.us.length b1, .slice C1 g.rs.length c1] 26) = W at *
  clear hW
  generalize w1.heap.size = o at *
  clear w1
  have m2 := k2.cell
  have m3 := k3.cell
  have mO := kO.cell
  have f4 := k4.froz
  have f5 := k5.froz
  have n4 : w.heap.size + 1 + 1 ≠ o := by omega
  have n5 : w.heap.size + 1 + 1 + 1 ≠ o := by omega
  go_upto_region 21 with fail
  have K4 := k4.drew
  have K5 := k5.drew
  have HEx := Ext.drew hE
  have s1 : w.heap.size + 1 + 1 + 1 ≠ w.heap.size + 1 + 1 := by omega
  have s2 : w.heap.size + 1 + 1 ≠ w.heap.size + 1 + 1 + 1 := by omega
  have t1 : w.heap.size ≤ w.heap.size + 1 + 1 := by omega
  have t2 : w.heap.size ≤ w.heap.size + 1 + 1 + 1 := by omega
  have e4 : o ≠ w.heap.size + 1 + 1 := by omega
  have e5 : o ≠ w.heap.size + 1 + 1 + 1 := by omega
  have e6 : w.heap.size ≠ w.heap.size + 1 + 1 := by omega
  have e7 : w.heap.size ≠ w.heap.size + 1 + 1 + 1 := by omega
  have l4 := k4.lt
  have l5 := k5.lt
  clear f4 f5 k2 k3 k4 k5 m3
  refine wp_region_treeB [w.heap.size + 1 + 1, w.heap.size + 1 + 1 + 1] (.take 0 (.take 1 (.alt 2 (.take 3 (.take 4 (.alt 5 (.alt 6 .done .none) .none))) .none))) Try.mixed (by kernel_rfl) ?_
  intro hx hy
  first
    | (refine wpT_takeB hx (v := ?_) (List.getElem?_toArray.trans (by rfl)) (by rfl) (fun _ hc => ?_) ?_
       rotate_left
       focus (go_simp; (try go_ints); exact rfl)
       simp only [Act.put, List.setIfInBounds_toArray, List.set_cons_zero, List.set_cons_succ])
    | (refine wpT_skip (List.getElem?_toArray.trans (by rfl)) (by rfl) ?_; simp only [Act.put, List.setIfInBounds_toArray, List.set_cons_zero, List.set_cons_succ])
  first
    | (refine wpT_takeB hx (v := ?_) (List.getElem?_toArray.trans (by rfl)) (by rfl) (fun _ hc => ?_) ?_
       rotate_left
       focus (go_simp; (try go_ints); exact rfl)
       simp only [Act.put, List.setIfInBounds_toArray, List.set_cons_zero, List.set_cons_succ])
    | (refine wpT_skip (List.getElem?_toArray.trans (by rfl)) (by rfl) ?_; simp only [Act.put, List.setIfInBounds_toArray, List.set_cons_zero, List.set_cons_succ])
  refine wpT_call (List.getElem?_toArray.trans (by rfl)) (by rfl) (fun K hK => ?_) ?_
  · skip
    go_simp
    go_at_call 19
    refine (live19_any _ g _ (hg0.ext HEx).rd hv hb).mono ?_
    rintro e w1 ⟨rfl, hE1⟩; replace K4 := K4.ext hE1; replace K5 := K5.ext hE1; replace HEx := HEx.trans hE1
    refine hK _ _ (But.more (hE1.but []) (by simp)) ?_
    clear hK
    intro hr
    replace hx := hx.trans hr
    clear hr
    try simp only [Act.put, List.setIfInBounds_toArray, List.set_cons_zero, List.set_cons_succ]
    first
      | (refine wpT_takeB hx (v := ?_) (List.getElem?_toArray.trans (by rfl)) (by rfl) (fun _ hc => ?_) ?_
         rotate_left
         focus (go_simp; (try go_ints); exact rfl)
         simp only [Act.put, List.setIfInBounds_toArray, List.set_cons_zero, List.set_cons_succ])
      | (refine wpT_skip (List.getElem?_toArray.trans (by rfl)) (by rfl) ?_; simp only [Act.put, List.setIfInBounds_toArray, List.set_cons_zero, List.set_cons_succ])
    first
      | (refine wpT_takeB hx (v := ?_) (List.getElem?_toArray.trans (by rfl)) (by rfl) (fun _ hc => ?_) ?_
         rotate_left
         focus (go_simp; (try go_ints); exact rfl)
         simp only [Act.put, List.setIfInBounds_toArray, List.set_cons_zero, List.set_cons_succ])
      | (refine wpT_skip (List.getElem?_toArray.trans (by rfl)) (by rfl) ?_; simp only [Act.put, List.setIfInBounds_toArray, List.set_cons_zero, List.set_cons_succ])
    refine wpT_store (List.getElem?_toArray.trans (by rfl)) rfl (by rfl) (fun K hK => ?_) ?_
    · skip
      have hcy := Ext.cell hy
      have hfy := Ext.froz hy
      have c4 := K4.cell; have f4 := K4.froz
      go_simp
      refine hK _ ?_ ?_
      focus ((repeat (first | (with_reducible exact But.refl _ _) | assumption | (with_reducible refine But.drew ?_) | (with_reducible refine But.drewL ?_) | (with_reducible refine But.setCell ?_ ?_ _; rotate_left; (focus (simp; done))) | (with_reducible refine But.setCellL ?_ ?_; rotate_left; (focus (simp; done))) | (with_reducible refine But.alloc2 ?_ ?_; rotate_left; (focus (simp [World.setCell]; done))) | (with_reducible refine But.allocL ?_ ?_ ?_; rotate_left; (focus (simp; done)); (focus (simp; done))) | (with_reducible refine But.alloc ?_ _))); done)
      clear hK
      intro hr
      replace K4 := ((K4.set_ 0 (.slice A1 g.ns.length a1)).set_ 1 (.slice B1 g.us.length b1)).set_ 2 (.slice C1 g.rs.length c1); replace K5 := blk_far3 K5 s1 (.slice A1 g.ns.length a1) (.slice B1 g.us.length b1) (.slice C1 g.rs.length c1); replace HEx := ext_set3 HEx t1 (.slice A1 g.ns.length a1) (.slice B1 g.us.length b1) (.slice C1 g.rs.length c1)
      replace hx := hx.trans hr
      clear hr
      try simp only [Act.put, List.setIfInBounds_toArray, List.set_cons_zero, List.set_cons_succ]
      refine wpT_store (List.getElem?_toArray.trans (by rfl)) rfl (by rfl) (fun K hK => ?_) ?_
      · skip
        have hcy := Ext.cell hy
        have hfy := Ext.froz hy
        have c5 := K5.cell; have f5 := K5.froz
        go_simp
        refine hK _ ?_ ?_
        focus ((repeat (first | (with_reducible exact But.refl _ _) | assumption | (with_reducible refine But.drew ?_) | (with_reducible refine But.drewL ?_) | (with_reducible refine But.setCell ?_ ?_ _; rotate_left; (focus (simp; done))) | (with_reducible refine But.setCellL ?_ ?_; rotate_left; (focus (simp; done))) | (with_reducible refine But.alloc2 ?_ ?_; rotate_left; (focus (simp [World.setCell]; done))) | (with_reducible refine But.allocL ?_ ?_ ?_; rotate_left; (focus (simp; done)); (focus (simp; done))) | (with_reducible refine But.alloc ?_ _))); done)
        clear hK
        intro hr
        replace K5 := (K5.set_ 0 (.int .i64 0)).set_ 1 (.int .u64 (liveT g)); replace K4 := blk_far2 K4 s2 (.int .i64 0) (.int .u64 (liveT g)); replace HEx := ext_set2 HEx t2 (.int .i64 0) (.int .u64 (liveT g))
        replace hx := hx.trans hr
        clear hr
        try simp only [Act.put, List.setIfInBounds_toArray, List.set_cons_zero, List.set_cons_succ]
        refine wpT_done ?_
        have hG2 := (hG.ext (Ext.drew (Ext.refl _))).but hx (fun k q hq hm => by have := (hG.lt k q hq).1; simp at hm; omega)
        have cF4 := K4.cell
        have cF5 := K5.cell
        go_wp2
        exact bodyPost_ret (v := .tuple #[.agg #[.slice A1 g.ns.length a1, .slice B1 g.us.length b1, .slice C1 g.rs.length c1], .agg #[.int .i64 0, .int .u64 (liveT g)]]) (by simp [results, Try.results27, go_sem, cF4, cF5]) rfl ⟨_, rfl, hG2.rdx (fun x hx => by have := hSb x hx; omega), HEx⟩
      exact wpT_none
    exact wpT_none
  exact wpT_none
end Go.Proofs.Ytamghjilcfeheaa
