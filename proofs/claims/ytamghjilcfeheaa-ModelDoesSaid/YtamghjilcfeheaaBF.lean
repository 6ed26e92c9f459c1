/- The walk of the model's Do, from what do answers. Conditions: the ranges that each theorem states. -/
import Derived.Test.YtamghjilcfeheaaBE
import Derived.Test.YtamghjilcfeheaaF
namespace Go.Proofs.Ytamghjilcfeheaa
open Go.RowKit Go.Draw

/-- do answers as the pure operation -/
def DoOk (g : Gr) (c a b d : Int) : Prop := ∀ (base M o : Nat) (W : World), GSt base M o W g → M ≤ W.heap.size → Calls Try.prog 29 #[.pointer (some ⟨o, 0, none⟩), .agg #[.int .i64 c, .int .i64 a, .int .i64 b, .int .i64 d]] W (DoR base M o W (doT g c a b d))
set_option maxRecDepth 100000 in
set_option maxHeartbeats 2000000 in
theorem do10_of (v : Value) (g : Gr) (c a b d : Int) (w : World) {S : List Nat} (hSb : ∀ x ∈ S, x < w.heap.size) (hg0 : GRx S w v g) (hv : Vld g) (hn : g.ns.length ≤ 1000) (hdo : DoOk g c a b d) :
    Calls Try.prog 10 #[v, .agg #[.int .i64 c, .int .i64 a, .int .i64 b, .int .i64 d]] w (RetDo S w (doT g c a b d)) := by
  have hg := hg0.rd
  have hb := hv.bd hn
  have hk := doT_keeps hv c a b d
  obtain ⟨A0, a0, B0, b0, C0, c0, rfl⟩ := hg.sl
  unfold DoOk at hdo
  generalize doT g c a b d = y at *
  go_enter Try.func10, Try.ntmps10
  go_upto_region 2 with (first | (go_at_call 28; refine (cloned_any _ g _ (hg.ext (by (repeat (first | (with_reducible exact Ext.refl _) | assumption | (with_reducible refine Ext.alloc ?_ _) | (with_reducible refine Ext.drew ?_) | (with_reducible refine Ext.drewL ?_) | refine Ext.trans ?_ (by assumption))))) hb).mono ?_; rintro e w1 ⟨vA, vB, vC, qs, rfl, hG, hE1⟩; (obtain ⟨A1, a1, rfl⟩ := own_slice hG.nodes); (obtain ⟨B1, b1, rfl⟩ := own_slice hG.used); (obtain ⟨C1, c1, rfl⟩ := own_slice hG.roots)))
  have hS := do_start hg hE1 hG
  clear hE1 hG
  obtain ⟨k2, k3, k4, k5, kO, hG, hgW, hE, hlo, hhi⟩ := hS
  generalize w1.alloc (.cells #[.slice A1 g.ns.length a1, .slice B1 g.us.length b1, .slice C1 g.rs.length c1] 26) = W at *
  generalize w1.heap.size = o at *
  have m3 := k3.cell
  have hGS : GSt (w.heap.size + 4) W.heap.size o W g := ⟨_, _, _, _, kO, hG, fun k b hb => (hG.lt k b hb).2, hlo, hhi⟩
  go_upto_region 3 with (go_at_call 29; refine (hdo (w.heap.size + 4) W.heap.size o W hGS (Nat.le_refl _)).mono ?_; rintro e wd ⟨hr, hG2, hF⟩; rw [hr])
  replace k2 := hF.blk k2 (.inr (by omega))
  replace k3 := hF.blk k3 (.inr (by omega))
  replace k4 := hF.blk k4 (.inr (by omega))
  replace k5 := hF.blk k5 (.inr (by omega))
  have hEW := hF.old hE (by omega)
  replace hgW := hg.ext hEW
  have c2 := k2.cell
  clear m3 hdo
  by_cases he : y.2.1 = 0
  · have he2 : (y.2.1 != 0) = false := by simpa using he
    obtain ⟨vA, vB, vC, ps, kO2, hG3, _⟩ := hG2
    obtain ⟨A2, a2, rfl⟩ := own_slice hG3.nodes
    obtain ⟨B2, b2, rfl⟩ := own_slice hG3.used
    obtain ⟨C2, c2', rfl⟩ := own_slice hG3.roots
    have cO := kO2.cell
    have c4 := k4.cell
    have c5 := k5.cell
    have f4 := k4.froz
    have f5 := k5.froz
    have n4 : w.heap.size + 1 + 1 ≠ o := by omega
    have n5 : w.heap.size + 1 + 1 + 1 ≠ o := by omega
    go_wp2
    obtain ⟨cF4, cF5⟩ := fin5 (n := w.heap.size) (.slice A2 y.1.ns.length a2) (.slice B2 y.1.us.length b2) (.slice C2 y.1.rs.length c2') (.int .i64 0) (.int .u64 y.2.2) k4 k5
    exact bodyPost_ret (v := .tuple #[.agg #[.slice A2 y.1.ns.length a2, .slice B2 y.1.us.length b2, .slice C2 y.1.rs.length c2'], .agg #[.int .i64 0, .int .u64 y.2.2]]) (by simp [results, Try.results10, go_sem, cF4, cF5]) rfl ⟨_, by rw [he], own5 hSb hG3, ext5 hEW⟩
  · have he2 : (y.2.1 != 0) = true := by simpa using he
    obtain ⟨y1, y2⟩ := hk.e he
    go_wp2_with (first | (go_at_call 28; refine (cloned_any _ g _ hgW hb).mono ?_; rintro e w1 ⟨vA, vB, vC, qs2, rfl, hG4, hE2⟩; (obtain ⟨A2, a2, rfl⟩ := own_slice hG4.nodes); (obtain ⟨B2, b2, rfl⟩ := own_slice hG4.used); (obtain ⟨C2, c2, rfl⟩ := own_slice hG4.roots); have c4 := (k4.ext hE2).cell; have c5 := (k5.ext hE2).cell; have f4 := (k4.ext hE2).froz; have f5 := (k5.ext hE2).froz))
    obtain ⟨cF4, cF5⟩ := fin5 (n := w.heap.size) (.slice A2 g.ns.length a2) (.slice B2 g.us.length b2) (.slice C2 g.rs.length c2) (.int .i64 y.2.1) (.int .u64 0) (k4.ext hE2) (k5.ext hE2)
    have hzd := hF.size
    exact bodyPost_ret (v := .tuple #[.agg #[.slice A2 g.ns.length a2, .slice B2 g.us.length b2, .slice C2 g.rs.length c2], .agg #[.int .i64 y.2.1, .int .u64 0]]) (by simp [results, Try.results10, go_sem, cF4, cF5]) rfl ⟨_, by rw [y2], by rw [y1]; exact own5 hSb (hG4.base_ (by omega)), ext5 (hEW.trans hE2)⟩
end Go.Proofs.Ytamghjilcfeheaa
