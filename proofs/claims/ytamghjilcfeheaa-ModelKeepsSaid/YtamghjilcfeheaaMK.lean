/- An argument that is a struct of four integers. Plain facts, no walk. The law ModelKeeps, walked. Condition: none beyond the sizes of a slice. -/
import Derived.Test.YtamghjilcfeheaaOpen
import Derived.OpenShut
import Derived.Test.YtamghjilcfeheaaAB
import Derived.Test.YtamghjilcfeheaaCJ
import Derived.Test.YtamghjilcfeheaaCK
import Derived.Test.YtamghjilcfeheaaCL
namespace Go.Proofs.Ytamghjilcfeheaa
open Go.RowKit Go.Draw Go.WideShapes Go.ChangeShapes

theorem cell_int {P : Program} {w : World} {r : Reach} {b : Nat} {t : TypeId} {k : IntKind} {v : Value} (ht : P.underlying t = some (.int k)) (h : Cell.okWide P w r b t v) : ∃ n, v = .int k n := by
  unfold Cell.okWide at h
  rw [ht] at h
  simp only [Cell.ok, ht] at h
  cases v <;> simp_all
theorem arg_int4 {P : Program} {w : World} {r : Reach} {b : Nat} {t u : TypeId} {fs : Array Field} {k : IntKind} {v : Value} (hs : P.underlying t = some (.struct fs)) (hct : P.cellTypes P.depth t = some [u, u, u, u]) (hu : P.underlying u = some (.int k)) (hsz : P.cellsOf t = 4)
    (hv : Value.okWide P w r b t v) : ∃ x y z q, v = .agg #[.int k x, .int k y, .int k z, .int k q] := by
  unfold Value.okWide at hv
  rw [hs] at hv
  simp only at hv
  obtain ⟨cs, rfl, hc, ts, hts, _, hall⟩ := hv
  rw [hct] at hts
  injection hts with hts
  subst hts
  rw [hsz] at hc
  have get : ∀ i, i < 4 → ∃ n, cs[i]? = some (.int k n) := fun i hi => by
    have hg : cs[i]? = some (cs[i]'(by omega)) := Array.getElem?_eq_getElem (by omega)
    obtain ⟨u', hu', hok⟩ := hall i _ hg
    have e : u' = u := by
      have h4 : i % [u, u, u, u].length = i := Nat.mod_eq_of_lt (by simpa using hi)
      rw [h4] at hu'
      have hm : u' ∈ [u, u, u, u] := List.mem_of_getElem? hu'
      simpa using hm
    subst e
    obtain ⟨n, hn⟩ := cell_int hu hok
    exact ⟨n, by rw [hg, hn]⟩
  obtain ⟨x, hx⟩ := get 0 (by omega)
  obtain ⟨y, hy⟩ := get 1 (by omega)
  obtain ⟨z, hz⟩ := get 2 (by omega)
  obtain ⟨q, hq⟩ := get 3 (by omega)
  refine ⟨x, y, z, q, ?_⟩
  congr 1
  apply Array.ext'
  apply List.ext_getElem?
  intro i
  have hl : cs.toList.length = 4 := by simpa using hc
  match i with
  | 0 => simpa using hx
  | 1 => simpa using hy
  | 2 => simpa using hz
  | 3 => simpa using hq
  | i + 4 =>
    rw [List.getElem?_eq_none (by omega)]
    simp
end Go.Proofs.Ytamghjilcfeheaa

namespace Go.Proofs.Ytamghjilcfeheaa
open Go.RowKit Go.Draw

/-- how an operation ends -/
theorem keeps_cases {g : Gr} (hv : Vld g) (hn : g.ns.length ≤ 1000) (c a b e : Int) :
    (∃ (g1 : Gr) (val : Int), Vld g1 ∧ g1.ns.length = (if c = 1 then g.ns.length + 1 else g.ns.length) ∧ ∀ (W : World) (v : Value), GRx [] W v g → Calls Try.prog 10 #[v, .agg #[.int .i64 c, .int .i64 a, .int .i64 b, .int .i64 e]] W (RetDo [] W (g1, 0, val))) ∨
    (∃ er : Int, er ≠ 0 ∧ er ≠ 18 ∧ er ≠ 19 ∧ ∀ (W : World) (v : Value), GRx [] W v g → Calls Try.prog 10 #[v, .agg #[.int .i64 c, .int .i64 a, .int .i64 b, .int .i64 e]] W (RetDo [] W (g, er, 0))) := by
  have hk := doT_keeps hv c a b e
  have hd := fun (W : World) (v : Value) (h : GRx [] W v g) => do10_any v g c a b e W (S := []) (by simp) h hv hn
  generalize doT g c a b e = y at hk hd
  obtain ⟨y1, y2, y3⟩ := y
  by_cases h0 : y2 = 0
  · subst h0
    have := hk.n
    simp only [and_true] at this
    exact .inl ⟨y1, y3, hk.v, this, hd⟩
  · obtain ⟨e1, e2⟩ := hk.e h0
    simp only at e1 e2
    subst e1 e2
    exact .inr ⟨y2, h0, hk.no.1, hk.no.2, hd⟩
set_option maxRecDepth 100000 in
set_option maxHeartbeats 2000000 in
theorem keeps_any (A : Option Addr) (n c : Nat) (zs : List Int) (p0 p1 p2 p3 : Int) (w : World) (hz : Rd w A n 1 (ints zs)) (hn : n ≤ 9223372036854775807) :
    Calls Try.prog 6 #[.agg #[.int .i64 p0, .int .i64 p1, .int .i64 p2, .int .i64 p3], .slice A n c] w fun r w' => r = .returned (.bool true) ∧ Ext w w' := by
  go_enter Try.func6, Try.ntmps6
  have hX0 := Ext.alloc (Ext.refl w) (.cells #[.int .i64 p0, .int .i64 p1, .int .i64 p2, .int .i64 p3] 37)
  replace hz := hz.ext hX0
  have hs0 : (w.alloc (.cells #[.int .i64 p0, .int .i64 p1, .int .i64 p2, .int .i64 p3] 37)).heap.size = w.heap.size + 1 := by simp
  go_upto_region 3 with (first | (go_at_call 9; refine (deck_any A n c zs _ hz hn).mono ?_; rintro e w1 ⟨rfl, hDk, hE1⟩; rw [hs0] at hDk; have hz1 := hDk.lt) | (go_at_call 8; refine (graph8_any (w.heap.size + 1) _ (S := [w.heap.size + 1]) (fun x hx => by have := List.mem_singleton.1 hx; omega) (by simp) hDk).mono ?_; rintro e w1 ⟨v, g, rfl, hgx, hv, hl50, hD2, hB2⟩; (obtain ⟨A0, a0, B0, b0, C0, c0, rfl⟩ := hgx.sl)))
  have hd1 : w.heap.size + 1 < w1.heap.size := hD2.lt
  have k2 : Blk w1 w.heap.size 37 #[.int .i64 p0, .int .i64 p1, .int .i64 p2, .int .i64 p3] := by
    have k : Blk (w.alloc (.cells #[.int .i64 p0, .int .i64 p1, .int .i64 p2, .int .i64 p3] 37)) w.heap.size 37 #[.int .i64 p0, .int .i64 p1, .int .i64 p2, .int .i64 p3] := Blk.new rfl
    exact (k.ext hE1).but hB2 (fun hm => by have := List.mem_singleton.1 hm; omega)
  have hEw : Ext w w1 := But.ext (hX0.trans hE1) hB2 (fun x hx => by have := List.mem_singleton.1 hx; omega)
  have hX := Ext.alloc (Ext.refl w1) (.cells #[.slice A0 g.ns.length a0, .slice B0 g.us.length b0, .slice C0 g.rs.length c0] 26)
  have kO : Blk (w1.alloc (.cells #[.slice A0 g.ns.length a0, .slice B0 g.us.length b0, .slice C0 g.rs.length c0] 26)) w1.heap.size 26 #[.slice A0 g.ns.length a0, .slice B0 g.us.length b0, .slice C0 g.rs.length c0] := Blk.new rfl
  generalize w1.alloc (.cells #[.slice A0 g.ns.length a0, .slice B0 g.us.length b0, .slice C0 g.rs.length c0] 26) = W at hX kO ⊢
  generalize w1.heap.size = o at kO hd1 ⊢
  replace hEw := hEw.trans hX
  replace k2 := k2.ext hX
  replace hD2 := hD2.ext hX
  replace hgx := hgx.ext hX
  clear hX hB2 hz1 hE1 hDk hX0 hz hs0
  obtain ⟨d, hd⟩ : ∃ d, d = w.heap.size + 1 := ⟨_, rfl⟩
  rw [← hd] at hD2 hgx hd1 ⊢
  have c2 := k2.cell
  have cO := kO.cell
  have l2 := k2.lt
  have lO := kO.lt
  have n1 : w.heap.size ≠ d := by omega
  have n2 : o ≠ d := by omega
  have hdw : w.heap.size ≤ d := by omega
  clear hd
  have hlu : g.us.length ≤ 1000 := by have := hv.lu; omega
  go_upto_region 3 with fail
  replace hD2 := hD2.ext (Ext.drew (Ext.refl _))
  replace hgx := hgx.ext (Ext.drew (Ext.refl _))
  refine wp_region_treeB [d] (.take 0 (.take 1 (.take 2 (.take 4 (.take 5 (.take 9 (.alt 3 (.alt 6 (.alt 7 (.take 8 .done) .none) .none) .none))))))) Try.mixed (by kernel_rfl) ?_
  intro hx hy
  first
    | (refine wpT_takeB hx (v := ?_) (List.getElem?_toArray.trans (by rfl)) (by rfl) (fun _ hc => ?_) ?_
       rotate_left
       focus (go_simp; (try go_ints); exact rfl)
       simp only [Act.put, List.setIfInBounds_toArray, List.set_cons_zero, List.set_cons_succ])
    | (refine wpT_skip (List.getElem?_toArray.trans (by rfl)) (by rfl) ?_; simp only [Act.put, List.setIfInBounds_toArray, List.set_cons_zero, List.set_cons_succ])
  first
    | (refine wpT_takeB hx (v := ?_) (List.getElem?_toArray.trans (by rfl)) (by rfl) (fun _ hc => ?_) ?_
       rotate_left
       focus (go_simp; (try go_ints); exact rfl)
       simp only [Act.put, List.setIfInBounds_toArray, List.set_cons_zero, List.set_cons_succ])
    | (refine wpT_skip (List.getElem?_toArray.trans (by rfl)) (by rfl) ?_; simp only [Act.put, List.setIfInBounds_toArray, List.set_cons_zero, List.set_cons_succ])
  first
    | (refine wpT_takeB hx (v := ?_) (List.getElem?_toArray.trans (by rfl)) (by rfl) (fun _ hc => ?_) ?_
       rotate_left
       focus (go_simp; (try go_ints); exact rfl)
       simp only [Act.put, List.setIfInBounds_toArray, List.set_cons_zero, List.set_cons_succ])
    | (refine wpT_skip (List.getElem?_toArray.trans (by rfl)) (by rfl) ?_; simp only [Act.put, List.setIfInBounds_toArray, List.set_cons_zero, List.set_cons_succ])
  first
    | (refine wpT_takeB hx (v := ?_) (List.getElem?_toArray.trans (by rfl)) (by rfl) (fun _ hc => ?_) ?_
       rotate_left
       focus (go_simp; (try go_ints); exact rfl)
       simp only [Act.put, List.setIfInBounds_toArray, List.set_cons_zero, List.set_cons_succ])
    | (refine wpT_skip (List.getElem?_toArray.trans (by rfl)) (by rfl) ?_; simp only [Act.put, List.setIfInBounds_toArray, List.set_cons_zero, List.set_cons_succ])
  first
    | (refine wpT_takeB hx (v := ?_) (List.getElem?_toArray.trans (by rfl)) (by rfl) (fun _ hc => ?_) ?_
       rotate_left
       focus (go_simp; (try go_ints); exact rfl)
       simp only [Act.put, List.setIfInBounds_toArray, List.set_cons_zero, List.set_cons_succ])
    | (refine wpT_skip (List.getElem?_toArray.trans (by rfl)) (by rfl) ?_; simp only [Act.put, List.setIfInBounds_toArray, List.set_cons_zero, List.set_cons_succ])
  first
    | (refine wpT_takeB hx (v := ?_) (List.getElem?_toArray.trans (by rfl)) (by rfl) (fun _ hc => ?_) ?_
       rotate_left
       focus (go_simp; (try go_ints); exact rfl)
       simp only [Act.put, List.setIfInBounds_toArray, List.set_cons_zero, List.set_cons_succ])
    | (refine wpT_skip (List.getElem?_toArray.trans (by rfl)) (by rfl) ?_; simp only [Act.put, List.setIfInBounds_toArray, List.set_cons_zero, List.set_cons_succ])
  refine wpT_call (List.getElem?_toArray.trans (by rfl)) (by rfl) (fun K hK => ?_) ?_
  · skip
    go_simp
    go_at_call 20
    refine (op20_any d _ g _ hD2 hgx.rd hlu).mono ?_
    rintro e w1 ⟨c1', a1', b1', e1', rfl, hD3, hB3⟩; replace hD2 := hD3; replace hgx := hgx.but hB3
    refine hK _ _ (But.trans hB3 (But.refl _ _)) ?_
    clear hK
    intro hr
    replace hx := hx.trans hr
    clear hr
    try simp only [Act.put, List.setIfInBounds_toArray, List.set_cons_zero, List.set_cons_succ]
    refine wpT_call (List.getElem?_toArray.trans (by rfl)) (by rfl) (fun K hK => ?_) ?_
    · skip
      go_simp
      go_at_call 20
      refine (op20_any d _ g _ hD2 hgx.rd hlu).mono ?_
      rintro e w1 ⟨c2', a2', b2', e2', rfl, hD4, hB4⟩; replace hD2 := hD4; replace hgx := hgx.but hB4
      refine hK _ _ (But.trans hB4 (But.refl _ _)) ?_
      clear hK
      intro hr
      replace hx := hx.trans hr
      clear hr
      try simp only [Act.put, List.setIfInBounds_toArray, List.set_cons_zero, List.set_cons_succ]
      refine wpT_call (List.getElem?_toArray.trans (by rfl)) (by rfl) (fun K hK => ?_) ?_
      · skip
        have hcy := Ext.cell hy
        have hfy := Ext.froz hy
        
        go_simp
        first | (refine hK _ _ ?_ ?_; (focus ((repeat (first | (with_reducible exact But.refl _ _) | assumption | (with_reducible refine But.drew ?_) | (with_reducible refine But.drewL ?_) | (with_reducible refine But.setCell ?_ ?_ _; rotate_left; (focus (simp; done))) | (with_reducible refine But.setCellL ?_ ?_; rotate_left; (focus (simp; done))) | (with_reducible refine But.alloc2 ?_ ?_; rotate_left; (focus (simp [World.setCell]; done))) | (with_reducible refine But.allocL ?_ ?_ ?_; rotate_left; (focus (simp; done)); (focus (simp; done))) | (with_reducible refine But.alloc ?_ _))); done))) | (refine hK undef _ ?_ ?_; (focus ((repeat (first | (with_reducible exact But.refl _ _) | assumption | (with_reducible refine But.drew ?_) | (with_reducible refine But.drewL ?_) | (with_reducible refine But.setCell ?_ ?_ _; rotate_left; (focus (simp; done))) | (with_reducible refine But.setCellL ?_ ?_; rotate_left; (focus (simp; done))) | (with_reducible refine But.alloc2 ?_ ?_; rotate_left; (focus (simp [World.setCell]; done))) | (with_reducible refine But.allocL ?_ ?_ ?_; rotate_left; (focus (simp; done)); (focus (simp; done))) | (with_reducible refine But.alloc ?_ _))); done)))
        clear hK
        intro hr
        have kL := blk_of_but hr
        replace hx := hx.trans hr
        clear hr
        try simp only [Act.put, List.setIfInBounds_toArray, List.set_cons_zero, List.set_cons_succ]
        first
          | (refine wpT_takeB hx (v := ?_) (List.getElem?_toArray.trans (by rfl)) (by rfl) (fun _ hc => ?_) ?_
             rotate_left
             focus (go_simp; (try go_ints); exact rfl)
             simp only [Act.put, List.setIfInBounds_toArray, List.set_cons_zero, List.set_cons_succ])
          | (refine wpT_skip (List.getElem?_toArray.trans (by rfl)) (by rfl) ?_; simp only [Act.put, List.setIfInBounds_toArray, List.set_cons_zero, List.set_cons_succ])
        refine wpT_done ?_
        have kO4 := (kO.drew).but hx (fun hm => n2 (List.mem_singleton.1 hm))
        have hE4 := But.ext (Ext.drew hEw) hx (fun x hx => by have := List.mem_singleton.1 hx; omega)
        have hgx4 := (hgx.ext (Ext.alloc (Ext.refl _) (.cells #[.int .i64 p0, .int .i64 p1, .int .i64 p2, .int .i64 p3, .int .i64 c1', .int .i64 a1', .int .i64 b1', .int .i64 e1', .int .i64 c2', .int .i64 a2', .int .i64 b2', .int .i64 e2'] 37))).less (S' := []) (by simp)
        generalize w1.alloc (.cells #[.int .i64 p0, .int .i64 p1, .int .i64 p2, .int .i64 p3, .int .i64 c1', .int .i64 a1', .int .i64 b1', .int .i64 e1', .int .i64 c2', .int .i64 a2', .int .i64 b2', .int .i64 e2'] 37) = W4 at kL kO4 hE4 hgx4 ⊢
        generalize w1.heap.size = bL at kL ⊢
        clear hx hcy hfy hgx hD2 hD4 hB4 hD3 hB3 hy c2 cO k2 kO hEw
        go_wp2_with fail
        go_loopw [25] (fun t wr => ∃ k : Nat, k ≤ 3 ∧ t = .int .i64 k ∧ Ext W4 wr) (fun t _ => 3 - (intOf t).toNat)
        case atStart => exact ⟨0, by omega, rfl, Ext.refl _⟩
        case round =>
          obtain ⟨k, hk, rfl, hE⟩ := hrel
          have cL := (kL.ext hE).cell
          have lL := (kL.ext hE).lt
          have cO := (kO4.ext hE).cell
          have lO4 := (kO4.ext hE).lt
          have hgr := hgx4.ext hE
          by_cases hlt : k < 3
          · have hdec : decide ((k : Int) < 3) = true := by simp; omega
            have hdec' : decide (k < 3) = true := by simp; omega
            have hkb : (k : Int) < 3 := by omega
            have hop : ∃ c a b e : Int, wr.cell? ⟨bL, k * 4, none⟩ = some (.int .i64 c) ∧ wr.cell? ⟨bL, k * 4 + 1, none⟩ = some (.int .i64 a) ∧ wr.cell? ⟨bL, k * 4 + 2, none⟩ = some (.int .i64 b) ∧ wr.cell? ⟨bL, k * 4 + 3, none⟩ = some (.int .i64 e) := by
              obtain rfl | rfl | rfl : k = 0 ∨ k = 1 ∨ k = 2 := by omega
              · exact ⟨p0, p1, p2, p3, cL 0, cL 1, cL 2, cL 3⟩
              · exact ⟨c1', a1', b1', e1', cL 4, cL 5, cL 6, cL 7⟩
              · exact ⟨c2', a2', b2', e2', cL 8, cL 9, cL 10, cL 11⟩
            obtain ⟨oc, oa, ob, oe, q0, q1, q2, q3⟩ := hop
            clear cL
            rcases keeps_cases hv (by omega) oc oa ob oe with ⟨g1, val, hv1, hn1, hdo⟩ | ⟨er, e0, e18, e19, hdo⟩
            · have hvt := vldB_true.2 hv1
              have hg1n : g1.ns.length ≤ 51 := by rw [hn1]; split <;> omega
              have Hn1 := Lib.hid hn1
              clear hn1
              go_upto_region 7 with (first | (go_at_call 10; refine (hdo _ _ (hgr.ext (by (repeat (first | (with_reducible exact Ext.refl _) | assumption | (with_reducible refine Ext.alloc ?_ _) | (with_reducible refine Ext.drew ?_) | (with_reducible refine Ext.drewL ?_) | refine Ext.trans ?_ (by assumption)))))).mono ?_; rintro e w1 ⟨v1, rfl, hg1, hE1⟩; (obtain ⟨A1, a1, B1, b1, C1, c1, rfl⟩ := hg1.rd.sl)))
              have kp : Blk (wr.alloc (.cells #[.int .i64 oc, .int .i64 oa, .int .i64 ob, .int .i64 oe] 37)) wr.heap.size 37 #[.int .i64 oc, .int .i64 oa, .int .i64 ob, .int .i64 oe] := Blk.new rfl
              have hXp := Ext.alloc (Ext.refl wr) (.cells #[.int .i64 oc, .int .i64 oa, .int .i64 ob, .int .i64 oe] 37)
              have hX5 : Ext w1 ((w1.alloc (.cells #[.slice A1 g1.ns.length a1, .slice B1 g1.us.length b1, .slice C1 g1.rs.length c1] 26)).alloc (.cells #[.int .i64 0, .int .u64 val] 33)) := by (repeat (first | (with_reducible exact Ext.refl _) | assumption | (with_reducible refine Ext.alloc ?_ _) | (with_reducible refine Ext.drew ?_) | (with_reducible refine Ext.drewL ?_) | refine Ext.trans ?_ (by assumption)))
              have k9 : Blk ((w1.alloc (.cells #[.slice A1 g1.ns.length a1, .slice B1 g1.us.length b1, .slice C1 g1.rs.length c1] 26)).alloc (.cells #[.int .i64 0, .int .u64 val] 33)) w1.heap.size 26 #[.slice A1 g1.ns.length a1, .slice B1 g1.us.length b1, .slice C1 g1.rs.length c1] := Blk.alloc (Blk.new rfl) _
              have k10 : Blk ((w1.alloc (.cells #[.slice A1 g1.ns.length a1, .slice B1 g1.us.length b1, .slice C1 g1.rs.length c1] 26)).alloc (.cells #[.int .i64 0, .int .u64 val] 33)) (w1.heap.size + 1) 33 #[.int .i64 0, .int .u64 val] := Blk.new (by simp)
              generalize (w1.alloc (.cells #[.slice A1 g1.ns.length a1, .slice B1 g1.us.length b1, .slice C1 g1.rs.length c1] 26)).alloc (.cells #[.int .i64 0, .int .u64 val] 33) = W5 at hX5 k9 k10 ⊢
              have hE15 : Ext wr W5 := hXp.trans (hE1.trans hX5)
              have kp5 := kp.ext (hE1.trans hX5)
              generalize w1.heap.size + 1 = z10 at k10 ⊢
              generalize w1.heap.size = z9 at k9 ⊢
              generalize wr.heap.size = zp at kp5 ⊢
              have hg5 := (hg1.ext hX5).rd
              have hgr5 := (hgr.ext hE15).rd
              have kO5 := (kO4.ext hE).ext hE15
              have cp := kp5.cell
              have c9 := k9.cell
              have c10 := k10.cell
              have cO5 := kO5.cell
              have lp := kp5.lt
              have l9 := k9.lt
              have l10 := k10.lt
              have lo5 := kO5.lt
              have hEf : Ext W4 W5 := hE.trans hE15
              clear kp hXp hE1 hg1 hX5 hgr q0 q1 q2 q3 cO hdo
              by_cases h1 : oc = 1
              · have o1 : (oc == 1) = true := by simpa using h1
                have hn1 := Hn1.out
                rw [if_pos h1] at hn1
                have n1' : ((g1.ns.length : Int) != (g.ns.length : Int) + 1) = false := by simp; omega
                have nb : (g.ns.length : Int) ≤ 1000 := by omega
                clear hn1 h1
                go_wp2_with (first | (go_at_call 14; refine (valid14_any _ g1 _ hg5 (hv1.bd (by omega))).mono ?_; rintro e w1 ⟨rfl, hE6⟩; rw [hvt]; have cp6 := (kp5.ext hE6).cell; have c96 := (k9.ext hE6).cell; have c106 := (k10.ext hE6).cell; have cO6 := (kO5.ext hE6).cell; have lp6 := (kp5.ext hE6).lt; have l96 := (k9.ext hE6).lt; have l106 := (k10.ext hE6).lt; have lo6 := (kO5.ext hE6).lt))
                go_roundw
                case rel => exact ⟨k + 1, by omega, by go_num, hEf.trans hE6⟩
                case measure => simp [intOf]; omega
              · have o1 : (oc == 1) = false := by simpa using h1
                have hn1 := Hn1.out
                rw [if_neg h1] at hn1
                have n1' : ((g1.ns.length : Int) != (g.ns.length : Int)) = false := by simp; omega
                clear hn1 h1
                go_wp2_with (first | (go_at_call 14; refine (valid14_any _ g1 _ hg5 (hv1.bd (by omega))).mono ?_; rintro e w1 ⟨rfl, hE6⟩; rw [hvt]; have cp6 := (kp5.ext hE6).cell; have c96 := (k9.ext hE6).cell; have c106 := (k10.ext hE6).cell; have cO6 := (kO5.ext hE6).cell; have lp6 := (kp5.ext hE6).lt; have l96 := (k9.ext hE6).lt; have l106 := (k10.ext hE6).lt; have lo6 := (kO5.ext hE6).lt))
                go_roundw
                case rel => exact ⟨k + 1, by omega, by go_num, hEf.trans hE6⟩
                case measure => simp [intOf]; omega
            · have hvt := vldB_true.2 hv
              have e0' : (er != 0) = true := by simpa using e0
              have e1' : (er == 18) = false := by simpa using e18
              have e2' : (er == 19) = false := by simpa using e19
              have e3' : (er == 0) = false := by simpa using e0
              go_upto_region 7 with (first | (go_at_call 10; refine (hdo _ _ (hgr.ext (by (repeat (first | (with_reducible exact Ext.refl _) | assumption | (with_reducible refine Ext.alloc ?_ _) | (with_reducible refine Ext.drew ?_) | (with_reducible refine Ext.drewL ?_) | refine Ext.trans ?_ (by assumption)))))).mono ?_; rintro e w1 ⟨v1, rfl, hg1, hE1⟩; (obtain ⟨A1, a1, B1, b1, C1, c1, rfl⟩ := hg1.rd.sl)))
              have kp : Blk (wr.alloc (.cells #[.int .i64 oc, .int .i64 oa, .int .i64 ob, .int .i64 oe] 37)) wr.heap.size 37 #[.int .i64 oc, .int .i64 oa, .int .i64 ob, .int .i64 oe] := Blk.new rfl
              have hXp := Ext.alloc (Ext.refl wr) (.cells #[.int .i64 oc, .int .i64 oa, .int .i64 ob, .int .i64 oe] 37)
              have hX5 : Ext w1 ((w1.alloc (.cells #[.slice A1 g.ns.length a1, .slice B1 g.us.length b1, .slice C1 g.rs.length c1] 26)).alloc (.cells #[.int .i64 er, .int .u64 0] 33)) := by (repeat (first | (with_reducible exact Ext.refl _) | assumption | (with_reducible refine Ext.alloc ?_ _) | (with_reducible refine Ext.drew ?_) | (with_reducible refine Ext.drewL ?_) | refine Ext.trans ?_ (by assumption)))
              have k9 : Blk ((w1.alloc (.cells #[.slice A1 g.ns.length a1, .slice B1 g.us.length b1, .slice C1 g.rs.length c1] 26)).alloc (.cells #[.int .i64 er, .int .u64 0] 33)) w1.heap.size 26 #[.slice A1 g.ns.length a1, .slice B1 g.us.length b1, .slice C1 g.rs.length c1] := Blk.alloc (Blk.new rfl) _
              have k10 : Blk ((w1.alloc (.cells #[.slice A1 g.ns.length a1, .slice B1 g.us.length b1, .slice C1 g.rs.length c1] 26)).alloc (.cells #[.int .i64 er, .int .u64 0] 33)) (w1.heap.size + 1) 33 #[.int .i64 er, .int .u64 0] := Blk.new (by simp)
              generalize (w1.alloc (.cells #[.slice A1 g.ns.length a1, .slice B1 g.us.length b1, .slice C1 g.rs.length c1] 26)).alloc (.cells #[.int .i64 er, .int .u64 0] 33) = W5 at hX5 k9 k10 ⊢
              have hE15 : Ext wr W5 := hXp.trans (hE1.trans hX5)
              have kp5 := kp.ext (hE1.trans hX5)
              generalize w1.heap.size + 1 = z10 at k10 ⊢
              generalize w1.heap.size = z9 at k9 ⊢
              generalize wr.heap.size = zp at kp5 ⊢
              have hg5 := (hg1.ext hX5).rd
              have hgr5 := (hgr.ext hE15).rd
              have kO5 := (kO4.ext hE).ext hE15
              have cp := kp5.cell
              have c9 := k9.cell
              have c10 := k10.cell
              have cO5 := kO5.cell
              have lp := kp5.lt
              have l9 := k9.lt
              have l10 := k10.lt
              have lo5 := kO5.lt
              have hEf : Ext W4 W5 := hE.trans hE15
              clear kp hXp hE1 hg1 hX5 hgr q0 q1 q2 q3 cO hdo
              clear e0 e18 e19
              by_cases h1 : oc = 1
              · have o1 : (oc == 1) = true := by simpa using h1
                clear h1
                go_wp2_with (first | (go_at_call 14; refine (valid14_any _ g _ hg5 (hv.bd (by omega))).mono ?_; rintro e w1 ⟨rfl, hE6⟩; rw [hvt]; have c96 := (k9.ext hE6).cell; have c106 := (k10.ext hE6).cell; have cO6 := (kO5.ext hE6).cell) | (go_at_call 21; refine (same21_any _ _ g _ (hg5.ext hE6) (hgr5.ext hE6) (hv.bd (by omega))).mono ?_; rintro e w1 ⟨rfl, hE7⟩; have cp7 := ((kp5.ext hE6).ext hE7).cell; have c97 := ((k9.ext hE6).ext hE7).cell; have c107 := ((k10.ext hE6).ext hE7).cell; have cO7 := ((kO5.ext hE6).ext hE7).cell))
                go_roundw
                case rel => exact ⟨k + 1, by omega, by go_num, (hEf.trans hE6).trans hE7⟩
                case measure => simp [intOf]; omega
              · have o1 : (oc == 1) = false := by simpa using h1
                clear h1
                go_wp2_with (first | (go_at_call 14; refine (valid14_any _ g _ hg5 (hv.bd (by omega))).mono ?_; rintro e w1 ⟨rfl, hE6⟩; rw [hvt]; have c96 := (k9.ext hE6).cell; have c106 := (k10.ext hE6).cell; have cO6 := (kO5.ext hE6).cell) | (go_at_call 21; refine (same21_any _ _ g _ (hg5.ext hE6) (hgr5.ext hE6) (hv.bd (by omega))).mono ?_; rintro e w1 ⟨rfl, hE7⟩; have cp7 := ((kp5.ext hE6).ext hE7).cell; have c97 := ((k9.ext hE6).ext hE7).cell; have c107 := ((k10.ext hE6).ext hE7).cell; have cO7 := ((kO5.ext hE6).ext hE7).cell))
                go_roundw
                case rel => exact ⟨k + 1, by omega, by go_num, (hEf.trans hE6).trans hE7⟩
                case measure => simp [intOf]; omega
          · have hdec : decide ((k : Int) < 3) = false := by simp; omega
            have hdec' : decide (k < 3) = false := by simp; omega
            go_wp2_with (go_at_call 13; refine (awake_any _).mono ?_; rintro e w2 ⟨rfl, hE2⟩)
            go_ret
            exact ⟨rfl, hE4.trans (hE.trans hE2)⟩
      exact wpT_none
    exact wpT_none
  exact wpT_none
end Go.Proofs.Ytamghjilcfeheaa
