/- The walk of the sanity check. Condition: none. -/
import Derived.Test.YtamghjilcfeheaaCI
import Derived.Test.YtamghjilcfeheaaR
namespace Go.Proofs.Ytamghjilcfeheaa
open Go.RowKit Go.Draw

def awOps : List (Int × Int × Int × Int) := [(1, 1, 0, 0), (1, 1, 0, 0), (3, 1, 0, 2), (3, 2, 0, 1), (7, 1, 0, 0)]
noncomputable def awG (k : Nat) : Gr := (awOps.take k).foldl (fun g o => (doT g o.1 o.2.1 o.2.2.1 o.2.2.2).1) newG
theorem awG_next {k : Nat} {o : Int × Int × Int × Int} (h : awOps[k]? = some o) : awG (k + 1) = (doT (awG k) o.1 o.2.1 o.2.2.1 o.2.2.2).1 := by
  unfold awG
  rw [List.take_add_one, h, Option.toList_some, List.foldl_append]
  rfl
theorem keepsLe {g : Gr} {c : Int} {x : Gr × Int × Int} (h : Keeps g c x) : x.1.ns.length ≤ g.ns.length + 1 := by
  have := h.n
  split at this <;> omega
theorem awG_ok : ∀ k, k ≤ 5 → Vld (awG k) ∧ (awG k).ns.length ≤ k
  | 0, _ => ⟨newG_vld, by simp [awG, newG]⟩
  | k + 1, hk => by
    obtain ⟨h1, h2⟩ := awG_ok k (by omega)
    obtain ⟨o, ho⟩ : ∃ o, awOps[k]? = some o := ⟨_, List.getElem?_eq_getElem (by simp [awOps]; omega)⟩
    rw [awG_next ho]
    have := doT_keeps h1 o.1 o.2.1 o.2.2.1 o.2.2.2
    exact ⟨this.v, by have := keepsLe this; omega⟩
def awEnd : Gr := ⟨[([1], []), ([0], [])], false :: true :: List.replicate 30 false, -1 :: 1 :: List.replicate 30 (-1)⟩
theorem awG_5 : awG 5 = awEnd := by kernel_rfl
def awLast : Gr := ⟨[([1], []), ([0], [])], List.replicate 32 false, List.replicate 32 (-1)⟩
theorem aw_drop : (doT awEnd 7 2 0 0).1 = awLast := by kernel_rfl
theorem awEnd_live : liveT awEnd = 4 := by
  have h1 : Rch awEnd 1 := Rch.root (i := 1) rfl rfl
  have h0 : Rch awEnd 0 := Rch.step (k := 0) h1 rfl rfl
  have hr : reachL awEnd = [0, 1] := by
    unfold reachL
    rw [show List.range awEnd.ns.length = [0, 1] from rfl]
    simp [rchB_true.2 h0, rchB_true.2 h1]
  unfold liveT
  rw [hr]
  rfl
theorem awLast_live : liveT awLast = 0 := by
  have hn : ∀ n, ¬ Rch awLast n := by
    intro n h
    induction h with
    | root h1 _ =>
      simp only [awLast, List.getElem?_replicate] at h1
      split at h1 <;> cases h1
    | step _ _ _ ih => exact ih
  have hr : reachL awLast = [] := by
    unfold reachL
    apply List.filter_eq_nil_iff.2
    intro n _ h
    exact hn n (rchB_true.1 h)
  unfold liveT
  rw [hr]
  rfl
theorem aw_do {k : Nat} {c a b d : Int} (hk : k ≤ 4) (ho : awOps[k]? = some (c, a, b, d)) : ∃ y : Gr × Int × Int, y.1 = awG (k + 1) ∧ ∀ (W : World) (v : Value) (S : List Nat), (∀ x ∈ S, x < W.heap.size) → GRx S W v (awG k) →
    Calls Try.prog 10 #[v, .agg #[.int .i64 c, .int .i64 a, .int .i64 b, .int .i64 d]] W (RetDo S W y) := by
  obtain ⟨h1, h2⟩ := awG_ok k (by omega)
  exact ⟨doT (awG k) c a b d, (awG_next ho).symm, fun W v S hS hg => do10_any v (awG k) c a b d W hS hg h1 (by omega)⟩
theorem aw_do6 : ∃ y : Gr × Int × Int, y.1 = awLast ∧ ∀ (W : World) (v : Value) (S : List Nat), (∀ x ∈ S, x < W.heap.size) → GRx S W v awEnd →
    Calls Try.prog 10 #[v, .agg #[.int .i64 7, .int .i64 2, .int .i64 0, .int .i64 0]] W (RetDo S W y) := by
  have h := awG_ok 5 (Nat.le_refl _)
  rw [awG_5] at h
  exact ⟨doT awEnd 7 2 0 0, aw_drop, fun W v S hS hg => do10_any v awEnd 7 2 0 0 W hS hg h.1 (by have := h.2; omega)⟩
theorem aw_live {g : Gr} {n : Nat} (hv : Vld g) (hn : g.ns.length ≤ 1000) (hl : liveT g = n) (v : Value) (W : World) (hg : GRd W v g) : Calls Try.prog 18 #[v] W fun r w' => r = .returned (.int .i64 (n : Int)) ∧ Ext W w' := by
  rw [← hl]
  exact live18_any v g W hg hv (hv.bd hn)
theorem awLast_vld : Vld awLast := by
  have h := awG_ok 5 (Nat.le_refl _)
  rw [awG_5] at h
  have := (doT_keeps h.1 7 2 0 0).v
  rwa [aw_drop] at this
structure AwSt (w : World) (o bL : Nat) (A : Option Addr) (a : Nat) (B : Option Addr) (b : Nat) (C : Option Addr) (c : Nat) (g : Gr) (wr : World) : Prop where
  ko : Blk wr o 26 #[.slice A g.ns.length a, .slice B g.us.length b, .slice C g.rs.length c]
  gx : GRx [o] wr (.agg #[.slice A g.ns.length a, .slice B g.us.length b, .slice C g.rs.length c]) g
  kl : Blk wr bL 37 #[.int .i64 1, .int .i64 1, .int .i64 0, .int .i64 0, .int .i64 1, .int .i64 1, .int .i64 0, .int .i64 0, .int .i64 3, .int .i64 1, .int .i64 0, .int .i64 2, .int .i64 3, .int .i64 2, .int .i64 0, .int .i64 1, .int .i64 7, .int .i64 1, .int .i64 0, .int .i64 0]
  ext : Ext w wr
  ne : bL ≠ o
  ho : w.heap.size ≤ o
theorem AwSt.store {w wr w2 : World} {o bL : Nat} {A A2 : Option Addr} {a a2 : Nat} {B B2 : Option Addr} {b b2 : Nat} {C C2 : Option Addr} {c c2 : Nat} {g g2 : Gr} (h : AwSt w o bL A a B b C c g wr) (he : Ext wr w2) (hg : GRx [o] w2 (.agg #[.slice A2 g2.ns.length a2, .slice B2 g2.us.length b2, .slice C2 g2.rs.length c2]) g2) :
    AwSt w o bL A2 a2 B2 b2 C2 c2 g2 (((w2.setCell ⟨o, 0, none⟩ (.slice A2 g2.ns.length a2)).setCell ⟨o, 1, none⟩ (.slice B2 g2.us.length b2)).setCell ⟨o, 2, none⟩ (.slice C2 g2.rs.length c2)) := by
  have hb : But [o] w2 (((w2.setCell ⟨o, 0, none⟩ (.slice A2 g2.ns.length a2)).setCell ⟨o, 1, none⟩ (.slice B2 g2.us.length b2)).setCell ⟨o, 2, none⟩ (.slice C2 g2.rs.length c2)) := by (repeat (first | (with_reducible exact But.refl _ _) | assumption | (with_reducible refine But.drew ?_) | (with_reducible refine But.drewL ?_) | (with_reducible refine But.setCell ?_ ?_ _; rotate_left; (focus (simp; done))) | (with_reducible refine But.setCellL ?_ ?_; rotate_left; (focus (simp; done))) | (with_reducible refine But.alloc2 ?_ ?_; rotate_left; (focus (simp [World.setCell]; done))) | (with_reducible refine But.allocL ?_ ?_ ?_; rotate_left; (focus (simp; done)); (focus (simp; done))) | (with_reducible refine But.alloc ?_ _)))
  refine ⟨by simpa using (((h.ko.ext he).set_ 0 (.slice A2 g2.ns.length a2)).set_ 1 (.slice B2 g2.us.length b2)).set_ 2 (.slice C2 g2.rs.length c2), hg.but hb, (h.kl.ext he).but hb (fun hm => h.ne (List.mem_singleton.1 hm)), ?_, h.ne, h.ho⟩
  exact But.ext (h.ext.trans he) hb (fun x hx => by have := List.mem_singleton.1 hx; have := h.ho; omega)
theorem lts_of {w W : World} {o : Nat} {t : TypeId} {cs : Array Value} (k : Blk w o t cs) (h : Ext w W) : ∀ x ∈ [o], x < W.heap.size := fun x hx => by
  have := List.mem_singleton.1 hx
  subst this
  have := k.lt
  have := h.size_le
  omega
set_option maxRecDepth 100000 in
set_option maxHeartbeats 2000000 in
theorem awake_any (w : World) : Calls Try.prog 13 #[] w fun r w' => r = .returned (.bool true) ∧ Ext w w' := by
  go_enter Try.func13, Try.ntmps13
  go_upto_region 2 with (first | (go_at_call 22; refine (new22_any _).mono ?_; rintro e w1 ⟨vA, vB, vC, qs, rfl, hG, hE⟩; (obtain ⟨A1, a1, rfl⟩ := own_slice hG.nodes); (obtain ⟨B1, b1, rfl⟩ := own_slice hG.used); (obtain ⟨C1, c1, rfl⟩ := own_slice hG.roots)))
  have ko : Blk (w1.alloc (.cells #[.slice A1 newG.ns.length a1, .slice B1 newG.us.length b1, .slice C1 newG.rs.length c1] 26)) w1.heap.size 26 #[.slice A1 newG.ns.length a1, .slice B1 newG.us.length b1, .slice C1 newG.rs.length c1] := Blk.new rfl
  have hX := Ext.alloc (Ext.refl w1) (.cells #[.slice A1 newG.ns.length a1, .slice B1 newG.us.length b1, .slice C1 newG.rs.length c1] 26)
  have gx := ((hG.rd.rx.cons (Nat.le_refl _))).ext hX
  have hz := hE.size_le
  generalize w1.alloc (.cells #[.slice A1 newG.ns.length a1, .slice B1 newG.us.length b1, .slice C1 newG.rs.length c1] 26) = W1 at ko hX gx ⊢
  have lo := ko.lt
  have hEw := hE.trans hX
  generalize w1.heap.size = o at ko gx lo hz ⊢
  clear hG hE hX
  go_wp2_with fail
  have hS : AwSt w o W1.heap.size A1 a1 B1 b1 C1 c1 (awG 0) (W1.alloc (.cells #[.int .i64 1, .int .i64 1, .int .i64 0, .int .i64 0, .int .i64 1, .int .i64 1, .int .i64 0, .int .i64 0, .int .i64 3, .int .i64 1, .int .i64 0, .int .i64 2, .int .i64 3, .int .i64 2, .int .i64 0, .int .i64 1, .int .i64 7, .int .i64 1, .int .i64 0, .int .i64 0] 37)) := ⟨ko.alloc _, gx.ext (Ext.alloc (Ext.refl _) _), Blk.new rfl, Ext.alloc hEw _, by omega, hz⟩
  generalize W1.alloc (.cells #[.int .i64 1, .int .i64 1, .int .i64 0, .int .i64 0, .int .i64 1, .int .i64 1, .int .i64 0, .int .i64 0, .int .i64 3, .int .i64 1, .int .i64 0, .int .i64 2, .int .i64 3, .int .i64 2, .int .i64 0, .int .i64 1, .int .i64 7, .int .i64 1, .int .i64 0, .int .i64 0] 37) = W2 at hS ⊢
  generalize W1.heap.size = bL at hS ⊢
  clear ko gx lo hEw hz
  go_loopw [13] (fun t wr => ∃ (k : Nat) (A : Option Addr) (a : Nat) (B : Option Addr) (b : Nat) (C : Option Addr) (c : Nat), k ≤ 5 ∧ t = .int .i64 k ∧ AwSt w o bL A a B b C c (awG k) wr) (fun t _ => 5 - (intOf t).toNat)
  case atStart => exact ⟨0, _, _, _, _, _, _, by omega, rfl, hS⟩
  case round =>
    clear hS
    obtain ⟨k, A, a, B, b, C, c, hk, rfl, hS⟩ := hrel
    have cL := hS.kl.cell
    have lL := hS.kl.lt
    have cO := hS.ko.cell
    have fO := hS.ko.froz
    have lO := hS.ko.lt
    have ne := hS.ne
    by_cases hlt : k < 5
    · obtain rfl | rfl | rfl | rfl | rfl : k = 0 ∨ k = 1 ∨ k = 2 ∨ k = 3 ∨ k = 4 := by omega
      · obtain ⟨y, hy, hdo⟩ := aw_do (k := 0) (by omega) (rfl : awOps[0]? = some (1, 1, 0, 0))
        have hk2 : 0 + 1 ≤ 5 := by omega
        go_upto_region 6 with (first | (go_at_call 10; refine (hdo _ _ [o] (lts_of hS.ko (by (repeat (first | (with_reducible exact Ext.refl _) | assumption | (with_reducible refine Ext.alloc ?_ _) | (with_reducible refine Ext.drew ?_) | (with_reducible refine Ext.drewL ?_) | refine Ext.trans ?_ (by assumption))))) (hS.gx.ext (by (repeat (first | (with_reducible exact Ext.refl _) | assumption | (with_reducible refine Ext.alloc ?_ _) | (with_reducible refine Ext.drew ?_) | (with_reducible refine Ext.drewL ?_) | refine Ext.trans ?_ (by assumption)))))).mono ?_; rintro e w1 ⟨v1, rfl, hg1, hE1⟩; rw [hy] at hg1; (obtain ⟨A2, a2, B2, b2, C2, c2, rfl⟩ := hg1.rd.sl); have hEc : Ext wr w1 := (Ext.alloc (Ext.refl _) _).trans hE1; have cO1 := (hS.ko.ext hEc).cell; have fO1 := (hS.ko.ext hEc).froz))
        have hS2 := hS.store hEc hg1
        go_wp2
        go_roundw
        case rel => exact ⟨0 + 1, _, _, _, _, _, _, by omega, by go_num, hS2⟩
        case measure => simp [intOf]
      · obtain ⟨y, hy, hdo⟩ := aw_do (k := 1) (by omega) (rfl : awOps[1]? = some (1, 1, 0, 0))
        have hk2 : 1 + 1 ≤ 5 := by omega
        go_upto_region 6 with (first | (go_at_call 10; refine (hdo _ _ [o] (lts_of hS.ko (by (repeat (first | (with_reducible exact Ext.refl _) | assumption | (with_reducible refine Ext.alloc ?_ _) | (with_reducible refine Ext.drew ?_) | (with_reducible refine Ext.drewL ?_) | refine Ext.trans ?_ (by assumption))))) (hS.gx.ext (by (repeat (first | (with_reducible exact Ext.refl _) | assumption | (with_reducible refine Ext.alloc ?_ _) | (with_reducible refine Ext.drew ?_) | (with_reducible refine Ext.drewL ?_) | refine Ext.trans ?_ (by assumption)))))).mono ?_; rintro e w1 ⟨v1, rfl, hg1, hE1⟩; rw [hy] at hg1; (obtain ⟨A2, a2, B2, b2, C2, c2, rfl⟩ := hg1.rd.sl); have hEc : Ext wr w1 := (Ext.alloc (Ext.refl _) _).trans hE1; have cO1 := (hS.ko.ext hEc).cell; have fO1 := (hS.ko.ext hEc).froz))
        have hS2 := hS.store hEc hg1
        go_wp2
        go_roundw
        case rel => exact ⟨1 + 1, _, _, _, _, _, _, by omega, by go_num, hS2⟩
        case measure => simp [intOf]
      · obtain ⟨y, hy, hdo⟩ := aw_do (k := 2) (by omega) (rfl : awOps[2]? = some (3, 1, 0, 2))
        have hk2 : 2 + 1 ≤ 5 := by omega
        go_upto_region 6 with (first | (go_at_call 10; refine (hdo _ _ [o] (lts_of hS.ko (by (repeat (first | (with_reducible exact Ext.refl _) | assumption | (with_reducible refine Ext.alloc ?_ _) | (with_reducible refine Ext.drew ?_) | (with_reducible refine Ext.drewL ?_) | refine Ext.trans ?_ (by assumption))))) (hS.gx.ext (by (repeat (first | (with_reducible exact Ext.refl _) | assumption | (with_reducible refine Ext.alloc ?_ _) | (with_reducible refine Ext.drew ?_) | (with_reducible refine Ext.drewL ?_) | refine Ext.trans ?_ (by assumption)))))).mono ?_; rintro e w1 ⟨v1, rfl, hg1, hE1⟩; rw [hy] at hg1; (obtain ⟨A2, a2, B2, b2, C2, c2, rfl⟩ := hg1.rd.sl); have hEc : Ext wr w1 := (Ext.alloc (Ext.refl _) _).trans hE1; have cO1 := (hS.ko.ext hEc).cell; have fO1 := (hS.ko.ext hEc).froz))
        have hS2 := hS.store hEc hg1
        go_wp2
        go_roundw
        case rel => exact ⟨2 + 1, _, _, _, _, _, _, by omega, by go_num, hS2⟩
        case measure => simp [intOf]
      · obtain ⟨y, hy, hdo⟩ := aw_do (k := 3) (by omega) (rfl : awOps[3]? = some (3, 2, 0, 1))
        have hk2 : 3 + 1 ≤ 5 := by omega
        go_upto_region 6 with (first | (go_at_call 10; refine (hdo _ _ [o] (lts_of hS.ko (by (repeat (first | (with_reducible exact Ext.refl _) | assumption | (with_reducible refine Ext.alloc ?_ _) | (with_reducible refine Ext.drew ?_) | (with_reducible refine Ext.drewL ?_) | refine Ext.trans ?_ (by assumption))))) (hS.gx.ext (by (repeat (first | (with_reducible exact Ext.refl _) | assumption | (with_reducible refine Ext.alloc ?_ _) | (with_reducible refine Ext.drew ?_) | (with_reducible refine Ext.drewL ?_) | refine Ext.trans ?_ (by assumption)))))).mono ?_; rintro e w1 ⟨v1, rfl, hg1, hE1⟩; rw [hy] at hg1; (obtain ⟨A2, a2, B2, b2, C2, c2, rfl⟩ := hg1.rd.sl); have hEc : Ext wr w1 := (Ext.alloc (Ext.refl _) _).trans hE1; have cO1 := (hS.ko.ext hEc).cell; have fO1 := (hS.ko.ext hEc).froz))
        have hS2 := hS.store hEc hg1
        go_wp2
        go_roundw
        case rel => exact ⟨3 + 1, _, _, _, _, _, _, by omega, by go_num, hS2⟩
        case measure => simp [intOf]
      · obtain ⟨y, hy, hdo⟩ := aw_do (k := 4) (by omega) (rfl : awOps[4]? = some (7, 1, 0, 0))
        have hk2 : 4 + 1 ≤ 5 := by omega
        go_upto_region 6 with (first | (go_at_call 10; refine (hdo _ _ [o] (lts_of hS.ko (by (repeat (first | (with_reducible exact Ext.refl _) | assumption | (with_reducible refine Ext.alloc ?_ _) | (with_reducible refine Ext.drew ?_) | (with_reducible refine Ext.drewL ?_) | refine Ext.trans ?_ (by assumption))))) (hS.gx.ext (by (repeat (first | (with_reducible exact Ext.refl _) | assumption | (with_reducible refine Ext.alloc ?_ _) | (with_reducible refine Ext.drew ?_) | (with_reducible refine Ext.drewL ?_) | refine Ext.trans ?_ (by assumption)))))).mono ?_; rintro e w1 ⟨v1, rfl, hg1, hE1⟩; rw [hy] at hg1; (obtain ⟨A2, a2, B2, b2, C2, c2, rfl⟩ := hg1.rd.sl); have hEc : Ext wr w1 := (Ext.alloc (Ext.refl _) _).trans hE1; have cO1 := (hS.ko.ext hEc).cell; have fO1 := (hS.ko.ext hEc).froz))
        have hS2 := hS.store hEc hg1
        go_wp2
        go_roundw
        case rel => exact ⟨4 + 1, _, _, _, _, _, _, by omega, by go_num, hS2⟩
        case measure => simp [intOf]
    · have hdec : decide ((k : Int) < 5) = false := by simp; omega
      have hdec' : decide (k < 5) = false := by simp; omega
      have hkn : k = 5 := by omega
      subst hkn
      rw [awG_5] at hS cO
      have hv5 := awG_ok 5 (Nat.le_refl _)
      rw [awG_5] at hv5
      obtain ⟨y, hy, hdo⟩ := aw_do6
      have ll := fun v W h => aw_live (n := 4) hv5.1 (by have := hv5.2; omega) awEnd_live v W h
      have ll2 := fun v W h => aw_live (n := 0) awLast_vld (by simp [awLast]) awLast_live v W h
      have e4 : ((4 : Nat) : Int) = 4 := rfl
      have e0 : ((0 : Nat) : Int) = 0 := rfl
      rw [e4] at ll
      rw [e0] at ll2
      go_upto_region 8 with (go_at_call 18; refine (ll _ _ hS.gx.rd).mono ?_; rintro e w1 ⟨rfl, hE1⟩)
      obtain ⟨w3, rfl⟩ : ∃ w3, w3 = w1 := ⟨_, rfl⟩
      have cO3 := (hS.ko.ext hE1).cell
      go_upto_region 9 with (first | (go_at_call 10; refine (hdo _ _ [o] (lts_of hS.ko hE1) (hS.gx.ext hE1)).mono ?_; rintro e w1 ⟨v1, rfl, hg1, hE2⟩; rw [hy] at hg1; (obtain ⟨A2, a2, B2, b2, C2, c2, rfl⟩ := hg1.rd.sl); have hEc : Ext wr w1 := hE1.trans hE2; have cO1 := (hS.ko.ext hEc).cell; have fO1 := (hS.ko.ext hEc).froz))
      have hS2 := hS.store hEc hg1
      have hrd := hS2.gx.rd
      have cO4 := hS2.ko.cell
      have lO4 := hS2.ko.lt
      generalize ((w1.setCell ⟨o, 0, none⟩ (.slice A2 awLast.ns.length a2)).setCell ⟨o, 1, none⟩ (.slice B2 awLast.us.length b2)).setCell ⟨o, 2, none⟩ (.slice C2 awLast.rs.length c2) = W9 at hS2 hrd cO4 lO4 ⊢
      have hl2 : ((awLast.ns.length : Int) == 2) = true := rfl
      go_wp2_with (go_at_call 18; refine (ll2 _ _ hrd).mono ?_; rintro e w2 ⟨rfl, hE2⟩; have cO5 := (hS2.ko.ext hE2).cell)
      go_ret
      exact ⟨rfl, hS2.ext.trans hE2⟩
end Go.Proofs.Ytamghjilcfeheaa
