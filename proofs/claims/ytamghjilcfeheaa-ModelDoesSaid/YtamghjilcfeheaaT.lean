/- The walk of the reference's Do: a node is allocated. Conditions: the ranges that each theorem states. -/
import Derived.Test.YtamghjilcfeheaaKK
namespace Go.Proofs.Ytamghjilcfeheaa
open Go.RowKit Go.Draw


set_option maxRecDepth 100000 in
set_option maxHeartbeats 2000000 in
theorem do27_full (v : Value) (g : Gr) (p q : Nat) (d : Int) (w : World) {S : List Nat} (hSb : ∀ x ∈ S, x < w.heap.size) (hg0 : GRx S w v g) (hv : Vld g) (hb : Bd g) (hp : p ≤ 15) (hq : q ≤ 32) (hf : ¬ freeT g.us < 32) :
    Calls Try.prog 27 #[v, .agg #[.int .i64 1, .int .i64 p, .int .i64 q, .int .i64 d]] w (RetDo S w (g, 15, 0)) := by
  have hg := hg0.rd
  have hlu := Lib.hid hv.lu
  have Hf := Lib.hid hf
  clear hv hf
  have s1 : decide ((p : Int) < 0) = false := by simp
  have s2 : decide ((q : Int) < 0) = false := by simp
  have s3 : decide (15 < (p : Int)) = false := by simp; omega
  have s4 : decide (32 < (q : Int)) = false := by simp; omega
  have s5 : decide (15 < p) = false := by simp; omega
  have s6 : decide (32 < q) = false := by simp; omega
  obtain ⟨A0, a0, B0, b0, C0, c0, rfl⟩ := hg.sl
  go_enter Try.func27, Try.ntmps27
  go_upto_region 2 with (go_at_call 32; refine (copy_any _ g _ (hg.ext (by (repeat (first | (with_reducible exact Ext.refl _) | assumption | (with_reducible refine Ext.alloc ?_ _) | (with_reducible refine Ext.drew ?_) | (with_reducible refine Ext.drewL ?_) | refine Ext.trans ?_ (by assumption))))) hb).mono ?_; rintro e w1 ⟨vA, vB, vC, qs, rfl, hG, hE1⟩; obtain ⟨A1, a1, rfl⟩ := own_slice hG.nodes; obtain ⟨B1, b1, rfl⟩ := own_slice hG.used; obtain ⟨C1, c1, rfl⟩ := own_slice hG.roots; have kO : Blk (w1.alloc (.cells #[.slice none 0 0, .slice none 0 0, .slice none 0 0] 26)) w1.heap.size 26 #[.slice none 0 0, .slice none 0 0, .slice none 0 0] := Blk.new rfl; have cO := kO.cell; have fO := kO.froz)
  clear kO cO fO
  have hS := do_start hg hE1 hG
  clear hE1 hG hg
  obtain ⟨k2, k3, k4, k5, kO, hG, hg, hE, hlo, hhi⟩ := hS
  generalize hW : w1.alloc (.cells #[.slice A1 g.ns.length a1, .slice B1 g.us.length b1, .slice C1 g.rs.length c1] 26) = W at *
  clear hW
  generalize w1.heap.size = o at *
  clear w1
  have m2 := k2.cell
  have m3 := k3.cell
  have mO := kO.cell
  have f4 := k4.froz
  have f5 := k5.froz
  have n4 : w.heap.size + 1 + 1 ≠ o := by omega
  have n5 : w.heap.size + 1 + 1 + 1 ≠ o := by omega
  go_wp2_with (first | (go_at_call 33; refine (fail_any _ g _ _ (hg.ext (by (repeat (first | (with_reducible exact Ext.refl _) | assumption | (with_reducible refine Ext.alloc ?_ _) | (with_reducible refine Ext.drew ?_) | (with_reducible refine Ext.drewL ?_) | refine Ext.trans ?_ (by assumption)))))).mono ?_; rintro e w1 ⟨rfl, hEf⟩; have hE2 : Ext W w1 := (by (repeat (first | (with_reducible exact Ext.refl _) | assumption | (with_reducible refine Ext.alloc ?_ _) | (with_reducible refine Ext.drew ?_) | (with_reducible refine Ext.drewL ?_) | refine Ext.trans ?_ (by assumption)))); have m4' := (k4.ext hE2).cell; have m5' := (k5.ext hE2).cell; have f4' := (k4.ext hE2).froz; have f5' := (k5.ext hE2).froz) | (go_at_call 34; refine (free_none _ g _ (hg.ext (by (repeat (first | (with_reducible exact Ext.refl _) | assumption | (with_reducible refine Ext.alloc ?_ _) | (with_reducible refine Ext.drew ?_) | (with_reducible refine Ext.drewL ?_) | refine Ext.trans ?_ (by assumption))))) hlu.out Hf.out).mono ?_; rintro e w1 ⟨rfl, hE3⟩; have hE4 : Ext W w1 := (by (repeat (first | (with_reducible exact Ext.refl _) | assumption | (with_reducible refine Ext.alloc ?_ _) | (with_reducible refine Ext.drew ?_) | (with_reducible refine Ext.drewL ?_) | refine Ext.trans ?_ (by assumption)))); have m2' := (k2.ext hE4).cell; have m3' := (k3.ext hE4).cell; have mO' := (kO.ext hE4).cell))
  obtain ⟨cF4, cF5⟩ := fin5 (n := w.heap.size) (.slice A0 g.ns.length a0) (.slice B0 g.us.length b0) (.slice C0 g.rs.length c0) (.int .i64 (15)) (.int .u64 0) (k4.ext hE2) (k5.ext hE2)
  exact bodyPost_ret (v := .tuple #[.agg #[.slice A0 g.ns.length a0, .slice B0 g.us.length b0, .slice C0 g.rs.length c0], .agg #[.int .i64 (15), .int .u64 0]]) (by simp [results, Try.results27, go_sem, cF4, cF5]) rfl ⟨_, rfl, hg0.ext (ext5 (hE.trans hE2)), ext5 (hE.trans hE2)⟩

set_option maxRecDepth 100000 in
set_option maxHeartbeats 2000000 in
theorem do27_alloc (v : Value) (g : Gr) (p q : Nat) (d : Int) (w : World) {S : List Nat} (hSb : ∀ x ∈ S, x < w.heap.size) (hg0 : GRx S w v g) (hv : Vld g) (hb : Bd g) (hp : p ≤ 15) (hq : q ≤ 32) (hf : freeT g.us < 32) :
    Calls Try.prog 27 #[v, .agg #[.int .i64 1, .int .i64 p, .int .i64 q, .int .i64 d]] w (RetDo S w (⟨g.ns ++ [(List.replicate p (-1), List.replicate q 0)], g.us.set (freeT g.us) true, g.rs.set (freeT g.us) g.ns.length⟩, 0, (freeT g.us : Int) + 1)) := by
  have hg := hg0.rd
  have hlu := Lib.hid hv.lu
  have hlr := Lib.hid hv.lr
  have hfu := freeT_spec (us := g.us) (by rw [hv.lu]; exact hf)
  obtain ⟨f, hfe⟩ : ∃ f, freeT g.us = f := ⟨_, rfl⟩
  rw [hfe] at hf hfu ⊢
  obtain ⟨rf, hfr⟩ : ∃ rf, g.rs[f]? = some rf := ⟨_, List.getElem?_eq_getElem (by rw [hv.lr]; exact hf)⟩
  have Hfe := Lib.hid hfe
  have Hfu := Lib.hid hfu
  have Hfr := Lib.hid hfr
  have ft : ((f : Int) + 1 == 0) = false := by simp; omega
  have fb : (f : Int) + 1 - 1 = f := by omega
  have hn1 := hb.1
  have mk := fun W : World => run_mk (P := Try.prog) Try.el47 rfl q (by omega) (by omega) W
  clear hv hfe hfu hfr
  have s1 : decide ((p : Int) < 0) = false := by simp
  have s2 : decide ((q : Int) < 0) = false := by simp
  have s3 : decide (15 < (p : Int)) = false := by simp; omega
  have s4 : decide (32 < (q : Int)) = false := by simp; omega
  have s5 : decide (15 < p) = false := by simp; omega
  have s6 : decide (32 < q) = false := by simp; omega
  obtain ⟨A0, a0, B0, b0, C0, c0, rfl⟩ := hg.sl
  go_enter Try.func27, Try.ntmps27
  go_upto_region 2 with (go_at_call 32; refine (copy_any _ g _ (hg.ext (by (repeat (first | (with_reducible exact Ext.refl _) | assumption | (with_reducible refine Ext.alloc ?_ _) | (with_reducible refine Ext.drew ?_) | (with_reducible refine Ext.drewL ?_) | refine Ext.trans ?_ (by assumption))))) hb).mono ?_; rintro e w1 ⟨vA, vB, vC, qs, rfl, hG, hE1⟩; obtain ⟨A1, a1, rfl⟩ := own_slice hG.nodes; obtain ⟨B1, b1, rfl⟩ := own_slice hG.used; obtain ⟨C1, c1, rfl⟩ := own_slice hG.roots; have kO : Blk (w1.alloc (.cells #[.slice none 0 0, .slice none 0 0, .slice none 0 0] 26)) w1.heap.size 26 #[.slice none 0 0, .slice none 0 0, .slice none 0 0] := Blk.new rfl; have cO := kO.cell; have fO := kO.froz)
  clear kO cO fO
  have hS := do_start hg hE1 hG
  clear hE1 hG hg
  obtain ⟨k2, k3, k4, k5, kO, hG, hg, hE, hlo, hhi⟩ := hS
  generalize hW : w1.alloc (.cells #[.slice A1 g.ns.length a1, .slice B1 g.us.length b1, .slice C1 g.rs.length c1] 26) = W at *
  clear hW
  generalize w1.heap.size = o at *
  clear w1
  have m2 := k2.cell
  have m3 := k3.cell
  have mO := kO.cell
  have f4 := k4.froz
  have f5 := k5.froz
  have n4 : w.heap.size + 1 + 1 ≠ o := by omega
  have n5 : w.heap.size + 1 + 1 + 1 ≠ o := by omega
  go_upto_region 10 with (first | (go_at_call 34; refine (free_some _ g f _ (hg.ext (by (repeat (first | (with_reducible exact Ext.refl _) | assumption | (with_reducible refine Ext.alloc ?_ _) | (with_reducible refine Ext.drew ?_) | (with_reducible refine Ext.drewL ?_) | refine Ext.trans ?_ (by assumption))))) hlu.out hf Hfe.out).mono ?_; rintro e w1 ⟨rfl, hE3⟩; have hE4 : Ext W w1 := (by (repeat (first | (with_reducible exact Ext.refl _) | assumption | (with_reducible refine Ext.alloc ?_ _) | (with_reducible refine Ext.drew ?_) | (with_reducible refine Ext.drewL ?_) | refine Ext.trans ?_ (by assumption)))); have m2' := (k2.ext hE4).cell; have m3' := (k3.ext hE4).cell; have mO' := (kO.ext hE4).cell))
  obtain ⟨wd, rfl⟩ : ∃ wd, wd = w1 := ⟨_, rfl⟩
  have hEq : Ext W wd := (by (repeat (first | (with_reducible exact Ext.refl _) | assumption | (with_reducible refine Ext.alloc ?_ _) | (with_reducible refine Ext.drew ?_) | (with_reducible refine Ext.drewL ?_) | refine Ext.trans ?_ (by assumption))))
  have HG := hG.ext hEq
  have HE := hE.trans hEq
  have K3 := k3.ext hEq
  have K4 := k4.ext hEq
  have K5 := k5.ext hEq
  have KO := kO.ext hEq
  clear m2 m3 mO f4 f5 m2' m3' mO' n4 n5
  have C3 := K3.cell
  have l3 := K3.lt
  have lO := KO.lt
  go_upto_region 11 with fail
  have hX6 : Ext wd ((wd.alloc (.cells (Array.replicate q (Value.int .u64 0)) 31)).alloc (.cells #[.slice none 0 0, .slice (some ⟨wd.heap.size, 0, none⟩) q q] 49)) := by (repeat (first | (with_reducible exact Ext.refl _) | assumption | (with_reducible refine Ext.alloc ?_ _) | (with_reducible refine Ext.drew ?_) | (with_reducible refine Ext.drewL ?_) | refine Ext.trans ?_ (by assumption)))
  have kN : Blk ((wd.alloc (.cells (Array.replicate q (Value.int .u64 0)) 31)).alloc (.cells #[.slice none 0 0, .slice (some ⟨wd.heap.size, 0, none⟩) q q] 49)) (wd.heap.size + 1) 49 #[.slice none 0 0, .slice (some ⟨wd.heap.size, 0, none⟩) q q] := Blk.new (by simp)
  have hD : ((wd.alloc (.cells (Array.replicate q (Value.int .u64 0)) 31)).alloc (.cells #[.slice none 0 0, .slice (some ⟨wd.heap.size, 0, none⟩) q q] 49)).ownsRow wd.heap.size 31 1 (.slice (some ⟨wd.heap.size, 0, none⟩) q q) q (words (List.replicate q 0)) := own_alloc (by
    have := own_new (base := wd.heap.size) (w := wd) (cs := List.replicate q (Value.int .u64 0)) (e := 31) (size := 1) (n := q) rfl (Nat.le_refl _) (by omega) (by simp)
    simpa [words] using this) _
  generalize hW6 : (wd.alloc (.cells (Array.replicate q (Value.int .u64 0)) 31)).alloc (.cells #[.slice none 0 0, .slice (some ⟨wd.heap.size, 0, none⟩) q q] 49) = W6 at hX6 kN hD ⊢
  clear hW6
  obtain ⟨bd, hbd⟩ : ∃ bd, bd = wd.heap.size := ⟨_, rfl⟩
  obtain ⟨n, hn⟩ : ∃ n, n = wd.heap.size + 1 := ⟨_, rfl⟩
  rw [← hn, ← hbd] at kN
  rw [← hbd] at hD
  rw [← hn]
  have hn1' : wd.heap.size + 1 ≤ n := by omega
  have hn2' : n ≤ wd.heap.size + 1 := by omega
  have hb1' : wd.heap.size ≤ bd := by omega
  have hb2' : bd ≤ wd.heap.size := by omega
  clear C3 l3 lO hn hbd
  have L3 := K3.lt
  have n3 : w.heap.size + 1 ≠ n := by omega
  have hbn : bd ≠ n := by omega
  have hnb : n ≠ bd := by omega
  go_wp2_with fail
  go_loopw [9] (fun i wr => ∃ (k : Nat) (R : Option Addr) (c : Nat), k ≤ p ∧ i = .int .i64 k ∧ Blk wr n 49 #[.slice R k c, .slice (some ⟨bd, 0, none⟩) q q] ∧ wr.ownsRow (n + 1) 3 1 (.slice R k c) k (ints (List.replicate k (-1))) ∧ wr.ownsRow bd 31 1 (.slice (some ⟨bd, 0, none⟩) q q) q (words (List.replicate q 0)) ∧ Ext wd wr) (fun i _ => p - (intOf i).toNat)
  case atStart => exact ⟨0, none, 0, by omega, rfl, kN, own_nil _ _ _ _, hD, hX6⟩
  case round =>
    clear kN hD hX6
    obtain ⟨k, R, c, hk, rfl, kN, hR, hD, hX⟩ := hrel
    have kP := K3.ext hX
    have cP := kP.cell
    have lN := kN.lt
    have cN := kN.cell
    have fN := kN.froz
    have lP := kP.lt
    have hnR : n ∉ (Value.slice R k c).ownBlock.toList := fun hm => by
      have := World.ownsRow.lt hR n (by simpa using hm)
      omega
    by_cases hlt : k < p
    · have hdec : decide ((k : Int) < p) = true := by simp; omega
      have hdec' : decide (k < p) = true := by simp; omega
      go_wp2_with (first | (at_builtin; refine wpList_append rfl Try.el22 _ _ rfl (n + 1) _ _ _ rfl (own_ext hR (by (repeat (first | (with_reducible exact Ext.refl _) | assumption | (with_reducible refine Ext.alloc ?_ _) | (with_reducible refine Ext.drew ?_) | (with_reducible refine Ext.drewL ?_) | refine Ext.trans ?_ (by assumption))))) _ 1 1 _ rfl (rd_new _ [_] 3 1 1 rfl) (by simp [Value.oneCell']) (by omega) (by omega) (by (first | omega | (simp; done) | (simp; omega))) ?_; intro A2 c3 w3 hR3 hg3 hat3; have b3 : But (Value.slice R k c).ownBlock.toList (wr.alloc (.cells #[.int .i64 (-1)] 3)) w3 := but_grown hg3; have kN3 := (kN.ext (by (repeat (first | (with_reducible exact Ext.refl _) | assumption | (with_reducible refine Ext.alloc ?_ _) | (with_reducible refine Ext.drew ?_) | (with_reducible refine Ext.drewL ?_) | refine Ext.trans ?_ (by assumption))))).but b3 hnR; have cN3 := kN3.cell; have fN3 := kN3.froz))
      go_roundw
      case rel =>
        have hRn : ∀ q', (Value.slice R k c).ownBlock = some q' → n + 1 ≤ q' := fun q' hq' => (World.ownsRow.lt hR q' hq').1
        have hR2 : ∀ q', (Value.slice A2 (k + 1) c3).ownBlock = some q' → n + 1 ≤ q' := fun q' hq' => (World.ownsRow.lt hR3 q' hq').1
        have hSn : ∀ q' ∈ (Value.slice R k c).ownBlock.toList, n + 1 ≤ q' := fun q' hq' => hRn q' (by simpa using hq')
        refine ⟨k + 1, A2, c3, by omega, by go_num, by simpa using kN3.set_ 0 (.slice A2 (k + 1) c3), ?_, ?_, ?_⟩
        · rw [List.replicate_succ']
          have h3 : w3.ownsRow (n + 1) 3 1 (.slice A2 (k + 1) c3) (k + 1) (ints (List.replicate k (-1) ++ [-1])) := by simpa [ints] using hR3
          exact own_but h3 (But.setCell (S := [n]) (But.refl _ _) (by simp) _) (fun q' hq' hm => by have := hR2 q' hq'; have := List.mem_singleton.1 hm; omega)
        · refine own_but (own_but (own_alloc hD _) b3 (fun q' hq' hm => ?_)) (But.setCell (S := [n]) (But.refl _ _) (by simp) _) (fun q' hq' hm => ?_)
          · have := hSn q' hm
            simp only [Value.ownBlock, Option.some.injEq] at hq'
            omega
          · have := List.mem_singleton.1 hm
            simp only [Value.ownBlock, Option.some.injEq] at hq'
            omega
        · exact Ext.setCell (But.ext (Ext.alloc hX _) b3 (fun q' hq' => by have := hSn q' hq'; omega)) (by show wd.heap.size ≤ n; omega) _
      case measure => simp [intOf]; omega
    · have hdec : decide ((k : Int) < p) = false := by simp; omega
      have hdec' : decide (k < p) = false := by simp; omega
      have hkp : k = p := by omega
      subst hkp
      have kQ := KO.ext hX
      have cQ := kQ.cell
      have lQ := kQ.lt
      have hoA : o ∉ (Value.slice A1 g.ns.length a1).ownBlock.toList := fun hm => HG.off .A (by simpa [kv] using hm)
      go_upto_region 16 with (first | (at_builtin; refine wpList_append rfl Try.el23 _ _ rfl (w.heap.size + 4) _ _ _ rfl (own_ext HG.nodes (by (repeat (first | (with_reducible exact Ext.refl _) | assumption | (with_reducible refine Ext.alloc ?_ _) | (with_reducible refine Ext.drew ?_) | (with_reducible refine Ext.drewL ?_) | refine Ext.trans ?_ (by assumption))))) _ 1 1 _ rfl (rd_new _ [_, _] 49 1 2 rfl) (by simp [Value.oneCell']) (by omega) (by omega) (by (first | omega | (simp; done) | (simp; omega))) ?_; intro A2 c3 w3 hN3 hg3 hat3; have g3 : (wr.alloc (.cells #[.slice R k c, .slice (some ⟨bd, 0, none⟩) q q] 49)).grownBy w3 (Value.slice A1 g.ns.length a1).ownBlock := hg3; have t3 : (Value.slice A2 (g.ns.length + 1) c3).ownBlock = (Value.slice A1 g.ns.length a1).ownBlock ∨ (Value.slice A2 (g.ns.length + 1) c3).ownBlock = some (wr.alloc (.cells #[.slice R k c, .slice (some ⟨bd, 0, none⟩) q q] 49)).heap.size := hat3; have b3 := but_grown g3; have kO3 := (KO.ext (by (repeat (first | (with_reducible exact Ext.refl _) | assumption | (with_reducible refine Ext.alloc ?_ _) | (with_reducible refine Ext.drew ?_) | (with_reducible refine Ext.drewL ?_) | refine Ext.trans ?_ (by assumption))))).but b3 hoA; have cO3 := kO3.cell; have fO3 := kO3.froz))
      have lOd := KO.lt
      have hX3 : Ext wd (wr.alloc (.cells #[.slice R k c, .slice (some ⟨bd, 0, none⟩) q q] 49)) := Ext.alloc hX _
      obtain ⟨kO6, hG6⟩ := fin_node (x := (List.replicate k (-1), List.replicate q 0)) HG KO hX3 (vR := .slice R k c) (vD := .slice (some ⟨bd, 0, none⟩) q q) (by simpa using hR) (by simpa using hD) (Ext.refl _) (Ext.alloc (Ext.refl _) _) (by omega) (by omega) (by omega) rfl hN3 g3 t3
      have hA1 : ∀ q' ∈ (Value.slice A1 g.ns.length a1).ownBlock.toList, w.heap.size + 4 ≤ q' := fun q' hq' => (HG.lt .A q' (by simpa [kv] using hq')).1
      have hE6 : Ext w (w3.setCell ⟨o, 0, none⟩ (.slice A2 (g.ns.length + 1) c3)) := Ext.setCell (But.ext (HE.trans hX3) b3 (fun q' hq' => by have := hA1 q' hq'; omega)) (by show w.heap.size ≤ o; omega) _
      have K46 := (((K4.ext hX3).but b3 (fun hm => by have := hA1 _ hm; omega)).far (p := ⟨o, 0, none⟩) (by show _ ≠ o; omega) (.slice A2 (g.ns.length + 1) c3))
      have K56 := (((K5.ext hX3).but b3 (fun hm => by have := hA1 _ hm; omega)).far (p := ⟨o, 0, none⟩) (by show _ ≠ o; omega) (.slice A2 (g.ns.length + 1) c3))
      generalize w3.setCell ⟨o, 0, none⟩ (.slice A2 (g.ns.length + 1) c3) = WX at kO6 hG6 hE6 K46 K56 ⊢
      clear cO3 fO3 kO3 b3 g3 t3 hN3 hat3 hg3 cQ kQ cP kP cN fN kN hR hD
      have CO := kO6.cell
      have C4 := K46.cell
      have C5 := K56.cell
      have F4 := K46.froz
      have F5 := K56.froz
      have lO6 := kO6.lt
      obtain ⟨bB, bC, rfl, rfl, t1, t2, t3, t4, t5⟩ := GOwn.tabs (g := ⟨g.ns ++ [(List.replicate k (-1), List.replicate q 0)], g.us, g.rs⟩) hG6 (by show 0 < g.us.length; have := hlu.out; omega) (by show 0 < g.rs.length; have := hlr.out; omega)
      obtain ⟨cB, fB⟩ := own_cells hG6.used
      obtain ⟨cC, fC⟩ := own_cells hG6.roots
      have cBi := cB f _ (vb_at Hfu.out)
      have cCi := cC f _ (ints_at Hfr.out)
      have i1 : f < g.us.length := by have := hlu.out; omega
      have i2 : (f : Int) < g.us.length := by omega
      have i3 : f < g.rs.length := by have := hlr.out; omega
      have i4 : (f : Int) < g.rs.length := by omega
      have i5 : (g.ns.length : Int) + 1 - 1 = g.ns.length := by omega
      have t6 : bC ≠ bB := fun e => t1 e.symm
      have D1 : o ≠ bB := fun e => t2 e.symm
      have D2 : o ≠ bC := fun e => t3 e.symm
      have d3 : w.heap.size + 1 ≠ bB := by omega
      have d4 : w.heap.size + 1 ≠ bC := by omega
      have d5 : w.heap.size + 1 + 1 ≠ bB := by omega
      have d6 : w.heap.size + 1 + 1 ≠ bC := by omega
      have d7 : w.heap.size + 1 + 1 + 1 ≠ bB := by omega
      have d8 : w.heap.size + 1 + 1 + 1 ≠ bC := by omega
      have d9 : w.heap.size + 1 + 1 ≠ o := by omega
      have d10 : w.heap.size + 1 + 1 + 1 ≠ o := by omega
      clear cB cC
      go_wp2_with fail
      refine wp_region_treeB [bB, bC] (.take 0 (.take 1 (.take 2 (.take 3 (.take 4 (.take 5 (.take 6 (.take 7 (.take 8 (.take 9 (.take 10 (.take 11 (.take 12 (.alt 13 (.take 14 (.alt 15 .done .none)) .none)))))))))))))) Try.mixed (by kernel_rfl) ?_
      intro hx hy
      first
        | (refine wpT_takeB hx (v := ?_) (List.getElem?_toArray.trans (by rfl)) (by rfl) (fun _ hc => ?_) ?_
           rotate_left
           focus (go_simp; (try go_ints); exact rfl)
           simp only [Act.put, List.setIfInBounds_toArray, List.set_cons_zero, List.set_cons_succ])
        | (refine wpT_skip (List.getElem?_toArray.trans (by rfl)) (by rfl) ?_; simp only [Act.put, List.setIfInBounds_toArray, List.set_cons_zero, List.set_cons_succ])
      first
        | (refine wpT_takeB hx (v := ?_) (List.getElem?_toArray.trans (by rfl)) (by rfl) (fun _ hc => ?_) ?_
           rotate_left
           focus (go_simp; (try go_ints); exact rfl)
           simp only [Act.put, List.setIfInBounds_toArray, List.set_cons_zero, List.set_cons_succ])
        | (refine wpT_skip (List.getElem?_toArray.trans (by rfl)) (by rfl) ?_; simp only [Act.put, List.setIfInBounds_toArray, List.set_cons_zero, List.set_cons_succ])
      first
        | (refine wpT_takeB hx (v := ?_) (List.getElem?_toArray.trans (by rfl)) (by rfl) (fun _ hc => ?_) ?_
           rotate_left
           focus (go_simp; (try go_ints); exact rfl)
           simp only [Act.put, List.setIfInBounds_toArray, List.set_cons_zero, List.set_cons_succ])
        | (refine wpT_skip (List.getElem?_toArray.trans (by rfl)) (by rfl) ?_; simp only [Act.put, List.setIfInBounds_toArray, List.set_cons_zero, List.set_cons_succ])
      first
        | (refine wpT_takeB hx (v := ?_) (List.getElem?_toArray.trans (by rfl)) (by rfl) (fun _ hc => ?_) ?_
           rotate_left
           focus (go_simp; (try go_ints); exact rfl)
           simp only [Act.put, List.setIfInBounds_toArray, List.set_cons_zero, List.set_cons_succ])
        | (refine wpT_skip (List.getElem?_toArray.trans (by rfl)) (by rfl) ?_; simp only [Act.put, List.setIfInBounds_toArray, List.set_cons_zero, List.set_cons_succ])
      first
        | (refine wpT_takeB hx (v := ?_) (List.getElem?_toArray.trans (by rfl)) (by rfl) (fun _ hc => ?_) ?_
           rotate_left
           focus (go_simp; (try go_ints); exact rfl)
           simp only [Act.put, List.setIfInBounds_toArray, List.set_cons_zero, List.set_cons_succ])
        | (refine wpT_skip (List.getElem?_toArray.trans (by rfl)) (by rfl) ?_; simp only [Act.put, List.setIfInBounds_toArray, List.set_cons_zero, List.set_cons_succ])
      first
        | (refine wpT_takeB hx (v := ?_) (List.getElem?_toArray.trans (by rfl)) (by rfl) (fun _ hc => ?_) ?_
           rotate_left
           focus (go_simp; (try go_ints); exact rfl)
           simp only [Act.put, List.setIfInBounds_toArray, List.set_cons_zero, List.set_cons_succ])
        | (refine wpT_skip (List.getElem?_toArray.trans (by rfl)) (by rfl) ?_; simp only [Act.put, List.setIfInBounds_toArray, List.set_cons_zero, List.set_cons_succ])
      first
        | (refine wpT_takeB hx (v := ?_) (List.getElem?_toArray.trans (by rfl)) (by rfl) (fun _ hc => ?_) ?_
           rotate_left
           focus (go_simp; (try go_ints); exact rfl)
           simp only [Act.put, List.setIfInBounds_toArray, List.set_cons_zero, List.set_cons_succ])
        | (refine wpT_skip (List.getElem?_toArray.trans (by rfl)) (by rfl) ?_; simp only [Act.put, List.setIfInBounds_toArray, List.set_cons_zero, List.set_cons_succ])
      first
        | (refine wpT_takeB hx (v := ?_) (List.getElem?_toArray.trans (by rfl)) (by rfl) (fun _ hc => ?_) ?_
           rotate_left
           focus (go_simp; (try go_ints); exact rfl)
           simp only [Act.put, List.setIfInBounds_toArray, List.set_cons_zero, List.set_cons_succ])
        | (refine wpT_skip (List.getElem?_toArray.trans (by rfl)) (by rfl) ?_; simp only [Act.put, List.setIfInBounds_toArray, List.set_cons_zero, List.set_cons_succ])
      first
        | (refine wpT_takeB hx (v := ?_) (List.getElem?_toArray.trans (by rfl)) (by rfl) (fun _ hc => ?_) ?_
           rotate_left
           focus (go_simp; (try go_ints); exact rfl)
           simp only [Act.put, List.setIfInBounds_toArray, List.set_cons_zero, List.set_cons_succ])
        | (refine wpT_skip (List.getElem?_toArray.trans (by rfl)) (by rfl) ?_; simp only [Act.put, List.setIfInBounds_toArray, List.set_cons_zero, List.set_cons_succ])
      first
        | (refine wpT_takeB hx (v := ?_) (List.getElem?_toArray.trans (by rfl)) (by rfl) (fun _ hc => ?_) ?_
           rotate_left
           focus (go_simp; (try go_ints); exact rfl)
           simp only [Act.put, List.setIfInBounds_toArray, List.set_cons_zero, List.set_cons_succ])
        | (refine wpT_skip (List.getElem?_toArray.trans (by rfl)) (by rfl) ?_; simp only [Act.put, List.setIfInBounds_toArray, List.set_cons_zero, List.set_cons_succ])
      first
        | (refine wpT_takeB hx (v := ?_) (List.getElem?_toArray.trans (by rfl)) (by rfl) (fun _ hc => ?_) ?_
           rotate_left
           focus (go_simp; (try go_ints); exact rfl)
           simp only [Act.put, List.setIfInBounds_toArray, List.set_cons_zero, List.set_cons_succ])
        | (refine wpT_skip (List.getElem?_toArray.trans (by rfl)) (by rfl) ?_; simp only [Act.put, List.setIfInBounds_toArray, List.set_cons_zero, List.set_cons_succ])
      first
        | (refine wpT_takeB hx (v := ?_) (List.getElem?_toArray.trans (by rfl)) (by rfl) (fun _ hc => ?_) ?_
           rotate_left
           focus (go_simp; (try go_ints); exact rfl)
           simp only [Act.put, List.setIfInBounds_toArray, List.set_cons_zero, List.set_cons_succ])
        | (refine wpT_skip (List.getElem?_toArray.trans (by rfl)) (by rfl) ?_; simp only [Act.put, List.setIfInBounds_toArray, List.set_cons_zero, List.set_cons_succ])
      first
        | (refine wpT_takeB hx (v := ?_) (List.getElem?_toArray.trans (by rfl)) (by rfl) (fun _ hc => ?_) ?_
           rotate_left
           focus (go_simp; (try go_ints); exact rfl)
           simp only [Act.put, List.setIfInBounds_toArray, List.set_cons_zero, List.set_cons_succ])
        | (refine wpT_skip (List.getElem?_toArray.trans (by rfl)) (by rfl) ?_; simp only [Act.put, List.setIfInBounds_toArray, List.set_cons_zero, List.set_cons_succ])
      refine wpT_store (List.getElem?_toArray.trans (by rfl)) rfl (by rfl) (fun K hK => ?_) ?_
      · skip
        have hcy := Ext.cell hy
        have hfy := Ext.froz hy
        go_simp
        refine hK _ ?_ ?_
        focus ((repeat (first | (with_reducible exact But.refl _ _) | assumption | (with_reducible refine But.drew ?_) | (with_reducible refine But.drewL ?_) | (with_reducible refine But.setCell ?_ ?_ _; rotate_left; (focus (simp; done))) | (with_reducible refine But.setCellL ?_ ?_; rotate_left; (focus (simp; done))) | (with_reducible refine But.alloc2 ?_ ?_; rotate_left; (focus (simp [World.setCell]; done))) | (with_reducible refine But.allocL ?_ ?_ ?_; rotate_left; (focus (simp; done)); (focus (simp; done))) | (with_reducible refine But.alloc ?_ _))); done)
        clear hK
        intro hr
        replace hx := hx.trans hr
        clear hr
        try simp only [Act.put, List.setIfInBounds_toArray, List.set_cons_zero, List.set_cons_succ]
        first
          | (refine wpT_takeB hx (v := ?_) (List.getElem?_toArray.trans (by rfl)) (by rfl) (fun _ hc => ?_) ?_
             rotate_left
             focus (go_simp; (try go_ints); exact rfl)
             simp only [Act.put, List.setIfInBounds_toArray, List.set_cons_zero, List.set_cons_succ])
          | (refine wpT_skip (List.getElem?_toArray.trans (by rfl)) (by rfl) ?_; simp only [Act.put, List.setIfInBounds_toArray, List.set_cons_zero, List.set_cons_succ])
        refine wpT_store (List.getElem?_toArray.trans (by rfl)) rfl (by rfl) (fun K hK => ?_) ?_
        · skip
          have hcy := Ext.cell hy
          have hfy := Ext.froz hy
          go_simp
          refine hK _ ?_ ?_
          focus ((repeat (first | (with_reducible exact But.refl _ _) | assumption | (with_reducible refine But.drew ?_) | (with_reducible refine But.drewL ?_) | (with_reducible refine But.setCell ?_ ?_ _; rotate_left; (focus (simp; done))) | (with_reducible refine But.setCellL ?_ ?_; rotate_left; (focus (simp; done))) | (with_reducible refine But.alloc2 ?_ ?_; rotate_left; (focus (simp [World.setCell]; done))) | (with_reducible refine But.allocL ?_ ?_ ?_; rotate_left; (focus (simp; done)); (focus (simp; done))) | (with_reducible refine But.alloc ?_ _))); done)
          clear hK
          intro hr
          replace hx := hx.trans hr
          clear hr
          try simp only [Act.put, List.setIfInBounds_toArray, List.set_cons_zero, List.set_cons_succ]
          refine wpT_done ?_
          go_wp2
          have K4' := (K46.far (p := ⟨bB, f, none⟩) d5 (.bool true)).far (p := ⟨bC, f, none⟩) d6 (.int .i64 g.ns.length)
          have K5' := (K56.far (p := ⟨bB, f, none⟩) d7 (.bool true)).far (p := ⟨bC, f, none⟩) d8 (.int .i64 g.ns.length)
          have HG' := (hG6.setU rfl f true).setC rfl f g.ns.length
          have HE' := Ext.setCell (Ext.setCell hE6 (p := ⟨bB, f, none⟩) (by show w.heap.size ≤ bB; omega) (.bool true)) (p := ⟨bC, f, none⟩) (by show w.heap.size ≤ bC; omega) (.int .i64 g.ns.length)
          obtain ⟨cF4, cF5⟩ := fin5 (n := w.heap.size) (.slice A2 (g.ns.length + 1) c3) (.slice (some ⟨bB, 0, none⟩) g.us.length b1) (.slice (some ⟨bC, 0, none⟩) g.rs.length c1) (.int .i64 0) (.int .u64 ((f : Int) + 1)) K4' K5'
          exact bodyPost_ret (v := .tuple #[.agg #[.slice A2 (g.ns.length + 1) c3, .slice (some ⟨bB, 0, none⟩) g.us.length b1, .slice (some ⟨bC, 0, none⟩) g.rs.length c1], .agg #[.int .i64 0, .int .u64 ((f : Int) + 1)]]) (by simp [results, Try.results27, go_sem, cF4, cF5]) rfl ⟨_, rfl, (own5 hSb HG').ext (Ext.drew (Ext.refl _)), Ext.drew (ext5 HE')⟩
        exact wpT_none
      exact wpT_none
end Go.Proofs.Ytamghjilcfeheaa
