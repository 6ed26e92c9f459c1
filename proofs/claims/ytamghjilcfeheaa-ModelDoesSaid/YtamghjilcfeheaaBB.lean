/- The walk of the model's take. Conditions: the ranges that each theorem states. -/
import Derived.Test.YtamghjilcfeheaaBA
import Derived.Test.YtamghjilcfeheaaI
namespace Go.Proofs.Ytamghjilcfeheaa
open Go.RowKit Go.Draw

/-- a graph of the call's own, held in block o; its blocks lie below M -/
def GSt (base M o : Nat) (w : World) (g : Gr) : Prop := ∃ vA vB vC ps, Blk w o 26 #[vA, vB, vC] ∧ GOwn w base o vA vB vC ps g ∧ (∀ k b, kv vA vB vC ps k = some b → b < M) ∧ base ≤ o ∧ o < M
section
variable {base M M' o : Nat} {w w' w1 w2 : World} {g : Gr}
theorem GSt.ext (h : GSt base M o w g) (he : Ext w w') : GSt base M o w' g := by
  obtain ⟨vA, vB, vC, ps, k, hg, r⟩ := h
  exact ⟨vA, vB, vC, ps, k.ext he, hg.ext he, r⟩
theorem GSt.lt (h : GSt base M o w g) : o < w.heap.size := by
  obtain ⟨vA, vB, vC, ps, k, hg, _⟩ := h
  exact k.lt
theorem GSt.top (h : GSt base M o w g) (hM : w.heap.size ≤ M') : GSt base M' o w g := by
  obtain ⟨vA, vB, vC, ps, k, hg, _, r⟩ := h
  exact ⟨vA, vB, vC, ps, k, hg, fun q b hb => by have := (hg.lt q b hb).2; omega, r.1, by have := k.lt; omega⟩
/-- between base and M, and from the old end on, things may have changed -/
def Fr (base M : Nat) (w w' : World) : Prop := ∃ S, But S w w' ∧ ∀ x ∈ S, base ≤ x ∧ x < M
theorem Fr.of_ext (h : Ext w w') : Fr base M w w' := ⟨[], h.but _, by simp⟩
theorem Fr.trans (h : Fr base M w w1) (k : Fr base M w1 w2) : Fr base M w w2 := by
  obtain ⟨S, h1, h2⟩ := h
  obtain ⟨S', k1, k2⟩ := k
  exact ⟨S ++ S', (But.more h1 (fun q hq => List.mem_append_left _ hq)).trans (But.more k1 (fun q hq => List.mem_append_right _ hq)), fun x hx => by
    rcases List.mem_append.1 hx with h | h
    · exact h2 x h
    · exact k2 x h⟩
theorem Fr.ext (h : Fr base M w w1) (k : Ext w1 w2) : Fr base M w w2 := h.trans (Fr.of_ext k)
theorem Fr.size (h : Fr base M w w1) : w.heap.size ≤ w1.heap.size := by
  obtain ⟨S, h1, _⟩ := h
  exact h1.size
theorem Fr.blk (h : Fr base M w w1) {k : Nat} {t : TypeId} {cs : Array Value} (hk : Blk w k t cs) (hM : M ≤ k ∨ k < base) : Blk w1 k t cs := by
  obtain ⟨S, h1, h2⟩ := h
  exact hk.but h1 (fun hm => by have := h2 _ hm; omega)
/-- what stood before base stands -/
theorem Fr.old {a : World} (h : Fr base M w w1) (he : Ext a w) (hb : a.heap.size ≤ base) : Ext a w1 := by
  obtain ⟨S, h1, h2⟩ := h
  exact But.ext he h1 (fun x hx => by have := h2 x hx; omega)
theorem Fr.set (h : Fr base M w w1) {p : Addr} (hp : base ≤ p.block ∧ p.block < M) (u : Value) : Fr base M w (w1.setCell p u) :=
  h.trans ⟨[p.block], But.setCell (But.refl _ _) (by simp) _, fun x hx => by have := List.mem_singleton.1 hx; subst this; exact hp⟩
end
set_option maxHeartbeats 1000000 in
theorem take44_none (base M o : Nat) (g : Gr) (n : Int) (w : World) (h : GSt base M o w g) (hlu : g.us.length = 32) (hf : ¬ freeT g.us < 32) :
    Calls Try.prog 44 #[.pointer (some ⟨o, 0, none⟩), .int .i64 n] w fun r w' => r = .returned (.tuple #[.int .u64 0, .int .i64 15]) ∧ Ext w w' := by
  obtain ⟨vA, vB, vC, ps, kO, hG, hM, hbo⟩ := h
  obtain ⟨A1, a1, rfl⟩ := own_slice hG.nodes
  obtain ⟨B1, b1, rfl⟩ := own_slice hG.used
  obtain ⟨C1, c1, rfl⟩ := own_slice hG.roots
  have HU := Rd.of_own hG.used
  have cO := kO.cell
  have hi : idxT g.us = -1 := by unfold idxT; rw [if_neg (by omega)]
  have hl : g.us.length ≤ 1000 := by omega
  clear hf hlu
  go_enter Try.func44, Try.ntmps44
  go_upto_region 2 with (go_at_call 46; refine (index46_any _ _ _ g.us _ HU hl).mono ?_; rintro e w1 ⟨rfl, hE⟩; rw [hi])
  clear cO kO hG HU hi
  go_wp2
  go_ret2
  exact ⟨rfl, hE⟩

set_option maxHeartbeats 1000000 in
theorem take44_some (base M o f : Nat) (g : Gr) (n : Int) (w : World) (h : GSt base M o w g) (hlu : g.us.length = 32) (hlr : g.rs.length = 32) (hfe : freeT g.us = f) (hf : f < 32) :
    Calls Try.prog 44 #[.pointer (some ⟨o, 0, none⟩), .int .i64 n] w fun r w' => r = .returned (.tuple #[.int .u64 ((f : Int) + 1), .int .i64 0]) ∧ GSt base M o w' ⟨g.ns, g.us.set f true, g.rs.set f n⟩ ∧ Fr base M w w' := by
  obtain ⟨vA, vB, vC, ps, kO, hG, hM, hbo⟩ := h
  obtain ⟨A1, a1, rfl⟩ := own_slice hG.nodes
  obtain ⟨B1, b1, rfl⟩ := own_slice hG.used
  obtain ⟨C1, c1, rfl⟩ := own_slice hG.roots
  have HU := Rd.of_own hG.used
  have cO := kO.cell
  have hi : idxT g.us = f := by unfold idxT; rw [if_pos (by omega), hfe]
  have hfu := freeT_spec (us := g.us) (by omega)
  rw [hfe] at hfu
  obtain ⟨rf, hfr⟩ : ∃ rf, g.rs[f]? = some rf := ⟨_, List.getElem?_eq_getElem (by omega)⟩
  obtain ⟨bB, bC, rfl, rfl, t1, t2, t3, t4, t5⟩ := hG.tabs (by omega) (by omega)
  obtain ⟨cB, fB⟩ := own_cells hG.used
  obtain ⟨cC, fC⟩ := own_cells hG.roots
  have cBi := cB f _ (vb_at hfu)
  have cCi := cC f _ (ints_at hfr)
  have i1 : f < g.us.length := by omega
  have i2 : (f : Int) < g.us.length := by omega
  have i3 : f < g.rs.length := by omega
  have i4 : (f : Int) < g.rs.length := by omega
  have t6 : bC ≠ bB := fun e => t1 e.symm
  have D1 : o ≠ bB := fun e => t2 e.symm
  have D2 : o ≠ bC := fun e => t3 e.symm
  have n0 : decide ((f : Int) < 0) = false := by simp
  have Hlu := Lib.hid hlu
  have Hlr := Lib.hid hlr
  clear cB cC hfu hfr hfe hlu hlr
  go_enter Try.func44, Try.ntmps44
  go_upto_region 4 with (go_at_call 46; refine (index46_any _ _ _ g.us _ (HU.ext (by (repeat (first | (with_reducible exact Ext.refl _) | assumption | (with_reducible refine Ext.alloc ?_ _) | (with_reducible refine Ext.drew ?_) | (with_reducible refine Ext.drewL ?_) | refine Ext.trans ?_ (by assumption))))) (by have := Hlu.out; omega)).mono ?_; rintro e w1 ⟨rfl, hE⟩; rw [hi]; have cO1 := (kO.ext hE).cell; replace cBi := cell_ext hE cBi; replace cCi := cell_ext hE cCi; replace fB := (fun j => (own_cells (own_ext hG.used hE)).2 j); replace fC := (fun j => (own_cells (own_ext hG.roots hE)).2 j); have lz := hE.size_le)
  have l1 := cell_lt cBi
  have l2 := cell_lt cCi
  refine wp_region_treeB [bB, bC] (.take 0 (.take 1 (.take 2 (.take 3 (.take 4 (.take 5 (.take 6 (.take 7 (.take 8 (.take 9 (.take 10 (.take 11 (.alt 12 (.take 13 (.alt 14 .done .none)) .none))))))))))))) Try.mixed (by kernel_rfl) ?_
  intro hx hy
  first
    | (refine wpT_takeB hx (v := ?_) (List.getElem?_toArray.trans (by rfl)) (by rfl) (fun _ hc => ?_) ?_
       rotate_left
       focus (go_simp; (try go_ints); exact rfl)
       simp only [Act.put, List.setIfInBounds_toArray, List.set_cons_zero, List.set_cons_succ])
    | (refine wpT_skip (List.getElem?_toArray.trans (by rfl)) (by rfl) ?_; simp only [Act.put, List.setIfInBounds_toArray, List.set_cons_zero, List.set_cons_succ])
  first
    | (refine wpT_takeB hx (v := ?_) (List.getElem?_toArray.trans (by rfl)) (by rfl) (fun _ hc => ?_) ?_
       rotate_left
       focus (go_simp; (try go_ints); exact rfl)
       simp only [Act.put, List.setIfInBounds_toArray, List.set_cons_zero, List.set_cons_succ])
    | (refine wpT_skip (List.getElem?_toArray.trans (by rfl)) (by rfl) ?_; simp only [Act.put, List.setIfInBounds_toArray, List.set_cons_zero, List.set_cons_succ])
  first
    | (refine wpT_takeB hx (v := ?_) (List.getElem?_toArray.trans (by rfl)) (by rfl) (fun _ hc => ?_) ?_
       rotate_left
       focus (go_simp; (try go_ints); exact rfl)
       simp only [Act.put, List.setIfInBounds_toArray, List.set_cons_zero, List.set_cons_succ])
    | (refine wpT_skip (List.getElem?_toArray.trans (by rfl)) (by rfl) ?_; simp only [Act.put, List.setIfInBounds_toArray, List.set_cons_zero, List.set_cons_succ])
  first
    | (refine wpT_takeB hx (v := ?_) (List.getElem?_toArray.trans (by rfl)) (by rfl) (fun _ hc => ?_) ?_
       rotate_left
       focus (go_simp; (try go_ints); exact rfl)
       simp only [Act.put, List.setIfInBounds_toArray, List.set_cons_zero, List.set_cons_succ])
    | (refine wpT_skip (List.getElem?_toArray.trans (by rfl)) (by rfl) ?_; simp only [Act.put, List.setIfInBounds_toArray, List.set_cons_zero, List.set_cons_succ])
  first
    | (refine wpT_takeB hx (v := ?_) (List.getElem?_toArray.trans (by rfl)) (by rfl) (fun _ hc => ?_) ?_
       rotate_left
       focus (go_simp; (try go_ints); exact rfl)
       simp only [Act.put, List.setIfInBounds_toArray, List.set_cons_zero, List.set_cons_succ])
    | (refine wpT_skip (List.getElem?_toArray.trans (by rfl)) (by rfl) ?_; simp only [Act.put, List.setIfInBounds_toArray, List.set_cons_zero, List.set_cons_succ])
  first
    | (refine wpT_takeB hx (v := ?_) (List.getElem?_toArray.trans (by rfl)) (by rfl) (fun _ hc => ?_) ?_
       rotate_left
       focus (go_simp; (try go_ints); exact rfl)
       simp only [Act.put, List.setIfInBounds_toArray, List.set_cons_zero, List.set_cons_succ])
    | (refine wpT_skip (List.getElem?_toArray.trans (by rfl)) (by rfl) ?_; simp only [Act.put, List.setIfInBounds_toArray, List.set_cons_zero, List.set_cons_succ])
  first
    | (refine wpT_takeB hx (v := ?_) (List.getElem?_toArray.trans (by rfl)) (by rfl) (fun _ hc => ?_) ?_
       rotate_left
       focus (go_simp; (try go_ints); exact rfl)
       simp only [Act.put, List.setIfInBounds_toArray, List.set_cons_zero, List.set_cons_succ])
    | (refine wpT_skip (List.getElem?_toArray.trans (by rfl)) (by rfl) ?_; simp only [Act.put, List.setIfInBounds_toArray, List.set_cons_zero, List.set_cons_succ])
  first
    | (refine wpT_takeB hx (v := ?_) (List.getElem?_toArray.trans (by rfl)) (by rfl) (fun _ hc => ?_) ?_
       rotate_left
       focus (go_simp; (try go_ints); exact rfl)
       simp only [Act.put, List.setIfInBounds_toArray, List.set_cons_zero, List.set_cons_succ])
    | (refine wpT_skip (List.getElem?_toArray.trans (by rfl)) (by rfl) ?_; simp only [Act.put, List.setIfInBounds_toArray, List.set_cons_zero, List.set_cons_succ])
  first
    | (refine wpT_takeB hx (v := ?_) (List.getElem?_toArray.trans (by rfl)) (by rfl) (fun _ hc => ?_) ?_
       rotate_left
       focus (go_simp; (try go_ints); exact rfl)
       simp only [Act.put, List.setIfInBounds_toArray, List.set_cons_zero, List.set_cons_succ])
    | (refine wpT_skip (List.getElem?_toArray.trans (by rfl)) (by rfl) ?_; simp only [Act.put, List.setIfInBounds_toArray, List.set_cons_zero, List.set_cons_succ])
  first
    | (refine wpT_takeB hx (v := ?_) (List.getElem?_toArray.trans (by rfl)) (by rfl) (fun _ hc => ?_) ?_
       rotate_left
       focus (go_simp; (try go_ints); exact rfl)
       simp only [Act.put, List.setIfInBounds_toArray, List.set_cons_zero, List.set_cons_succ])
    | (refine wpT_skip (List.getElem?_toArray.trans (by rfl)) (by rfl) ?_; simp only [Act.put, List.setIfInBounds_toArray, List.set_cons_zero, List.set_cons_succ])
  first
    | (refine wpT_takeB hx (v := ?_) (List.getElem?_toArray.trans (by rfl)) (by rfl) (fun _ hc => ?_) ?_
       rotate_left
       focus (go_simp; (try go_ints); exact rfl)
       simp only [Act.put, List.setIfInBounds_toArray, List.set_cons_zero, List.set_cons_succ])
    | (refine wpT_skip (List.getElem?_toArray.trans (by rfl)) (by rfl) ?_; simp only [Act.put, List.setIfInBounds_toArray, List.set_cons_zero, List.set_cons_succ])
  first
    | (refine wpT_takeB hx (v := ?_) (List.getElem?_toArray.trans (by rfl)) (by rfl) (fun _ hc => ?_) ?_
       rotate_left
       focus (go_simp; (try go_ints); exact rfl)
       simp only [Act.put, List.setIfInBounds_toArray, List.set_cons_zero, List.set_cons_succ])
    | (refine wpT_skip (List.getElem?_toArray.trans (by rfl)) (by rfl) ?_; simp only [Act.put, List.setIfInBounds_toArray, List.set_cons_zero, List.set_cons_succ])
  refine wpT_store (List.getElem?_toArray.trans (by rfl)) rfl (by rfl) (fun K hK => ?_) ?_
  · skip
    have hcy := Ext.cell hy
    have hfy := Ext.froz hy
    go_simp
    refine hK _ ?_ ?_
    focus ((repeat (first | (with_reducible exact But.refl _ _) | assumption | (with_reducible refine But.drew ?_) | (with_reducible refine But.drewL ?_) | (with_reducible refine But.setCell ?_ ?_ _; rotate_left; (focus (simp; done))) | (with_reducible refine But.setCellL ?_ ?_; rotate_left; (focus (simp; done))) | (with_reducible refine But.alloc2 ?_ ?_; rotate_left; (focus (simp [World.setCell]; done))) | (with_reducible refine But.allocL ?_ ?_ ?_; rotate_left; (focus (simp; done)); (focus (simp; done))) | (with_reducible refine But.alloc ?_ _))); done)
    clear hK
    intro hr
    replace hx := hx.trans hr
    clear hr
    try simp only [Act.put, List.setIfInBounds_toArray, List.set_cons_zero, List.set_cons_succ]
    first
      | (refine wpT_takeB hx (v := ?_) (List.getElem?_toArray.trans (by rfl)) (by rfl) (fun _ hc => ?_) ?_
         rotate_left
         focus (go_simp; (try go_ints); exact rfl)
         simp only [Act.put, List.setIfInBounds_toArray, List.set_cons_zero, List.set_cons_succ])
      | (refine wpT_skip (List.getElem?_toArray.trans (by rfl)) (by rfl) ?_; simp only [Act.put, List.setIfInBounds_toArray, List.set_cons_zero, List.set_cons_succ])
    refine wpT_store (List.getElem?_toArray.trans (by rfl)) rfl (by rfl) (fun K hK => ?_) ?_
    · skip
      have hcy := Ext.cell hy
      have hfy := Ext.froz hy
      go_simp
      refine hK _ ?_ ?_
      focus ((repeat (first | (with_reducible exact But.refl _ _) | assumption | (with_reducible refine But.drew ?_) | (with_reducible refine But.drewL ?_) | (with_reducible refine But.setCell ?_ ?_ _; rotate_left; (focus (simp; done))) | (with_reducible refine But.setCellL ?_ ?_; rotate_left; (focus (simp; done))) | (with_reducible refine But.alloc2 ?_ ?_; rotate_left; (focus (simp [World.setCell]; done))) | (with_reducible refine But.allocL ?_ ?_ ?_; rotate_left; (focus (simp; done)); (focus (simp; done))) | (with_reducible refine But.alloc ?_ _))); done)
      clear hK
      intro hr
      replace hx := hx.trans hr
      clear hr
      try simp only [Act.put, List.setIfInBounds_toArray, List.set_cons_zero, List.set_cons_succ]
      refine wpT_done ?_
      go_wp2
      go_ret2
      have HG := ((((hG.ext hE).ext (Ext.drew (Ext.refl _))).setU rfl f true)).setC rfl f n
      refine ⟨rfl, ⟨_, _, _, _, ?_, HG, hM, hbo⟩, ?_⟩
      · exact (((kO.ext hE).drew).far (p := ⟨bB, f, none⟩) D1 (.bool true)).far (p := ⟨bC, f, none⟩) D2 (.int .i64 n)
      · exact Fr.set (Fr.set (Fr.of_ext (Ext.drew hE)) (p := ⟨bB, f, none⟩) ⟨t4.1, hM .B bB rfl⟩ _) (p := ⟨bC, f, none⟩) ⟨t5.1, hM .C bC rfl⟩ _
    exact wpT_none
  exact wpT_none
end Go.Proofs.Ytamghjilcfeheaa
