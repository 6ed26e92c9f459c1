/- The walk of bump.Alloc (reference). Conditions: the ranges that each theorem states. -/
import Derived.Test.YtljkadpconghnaaSpcJ
namespace Go.Proofs.Ytljkadpconghnaa
open Go.RowKit Go.Draw

theorem Chs.none_of {S : Sp} {L : List Ch} {x : Ch} (h : Chs S L) (hx : x ∈ L) (hc : x.c = []) : ∀ F ∈ S.fs, F.o ≠ x.q := by
  intro F hF ho
  obtain ⟨i, hi⟩ := List.mem_iff_getElem?.1 hF
  rcases h.cases hi with ⟨rfl, _⟩ | ⟨y, hy, p, hp, rfl⟩
  · have := (h.ids x hx).1
    simp only [freeF] at ho
    omega
  · have := h.same hy hx ho
    subst this
    rw [hc] at hp
    simp at hp
def noSp : Value := .agg #[.int .i64 0, .slice none 0 0, .slice none 0 0]
def AllocNo (w : World) (r : Ending) (w' : World) : Prop := r = .returned (.tuple #[.agg #[.int .i64 0, .slice none 0 0, .slice none 0 0], .agg #[.int .i64 0, .int .i64 0, .int .i64 0, .int .i64 0, .int .i64 0], .int .i64 0, .int .i64 4]) ∧ Ext w w'
def Alloced (w : World) (S : Sp) (L : List Ch) (x : Ch) (wd n B : Nat) (r : Ending) (w' : World) : Prop :=
  ∃ (gW cW gF cF : Nat) (fs : List Fr) (c : List Nat), r = .returned (.tuple #[.agg #[.int .i64 S.sh, .slice (some ⟨gW, 0, none⟩) S.ws.length cW, .slice (some ⟨gF, 0, none⟩) fs.length cF],
    .agg #[.int .i64 x.q, .int .i64 x.b, .int .i64 (posI c 0), .int .i64 (lastI c), .int .i64 ((wd + n : Nat) : Int)], .int .i64 (addrN c B wd : Nat), .int .i64 0]) ∧ fs.length = S.fs.length ∧ ceilN (wd + n) B = c.length ∧ (∃ d, c = x.c ++ d) ∧
    Chs ⟨S.sh, S.ws, fs⟩ (⟨x.q, x.b, c⟩ :: L) ∧ SOw w' w.heap.size ⟨S.sh, S.ws, fs⟩ gW cW gF cF ∧ Ext w w'
def RetAlloc (w : World) (S : Sp) (L : List Ch) (x : Ch) (wd n B : Nat) (r : Ending) (w' : World) : Prop := AllocNo w r w' ∨ Alloced w S L x wd n B r w'

theorem fin_alloc {Q : Ending → World → Prop} {a : Act} {W : World} {g1 g2 : Nat} {u0 u1 u2 v0 v1 v2 v3 v4 t8 t9 : Value} (hd : a.defers = []) (h6 : a.tmps[6]?.getD undef = .pointer (some ⟨g1, 0, none⟩)) (h7 : a.tmps[7]?.getD undef = .pointer (some ⟨g2, 0, none⟩)) (h8 : a.tmps[8]?.getD undef = t8) (h9 : a.tmps[9]?.getD undef = t9)
    (k1 : Blk W g1 35 #[u0, u1, u2]) (k2 : Blk W g2 24 #[v0, v1, v2, v3, v4]) (hQ : Q (.returned (.tuple #[.agg #[u0, u1, u2], .agg #[v0, v1, v2, v3, v4], t8, t9])) W) :
    bodyPost Try.prog Try.f36 Q Exit.ret a W := by
  have c1 := k1.cell
  have c2 := k2.cell
  exact bodyPost_ret (v := .tuple #[.agg #[u0, u1, u2], .agg #[v0, v1, v2, v3, v4], t8, t9]) (by simp [results, Try.results36, go_sem, h6, h7, h8, h9, c1, c2]) hd hQ
set_option maxRecDepth 100000 in
set_option maxHeartbeats 4000000 in
theorem alloc_any (A Bf : Option Addr) (a b : Nat) (S : Sp) (L : List Ch) (x : Ch) (wd n B : Nat) (w : World) (h : SRd w S A Bf) (hS : Chs S (x :: L)) (hB : 2 ^ S.sh = B) (hwd : ceilN wd B = x.c.length) (h1 : 1 ≤ n) (h2 : n ≤ 48) :
    Calls Try.prog 36 #[spV S A a Bf b, incV x wd, .int .i64 n] w (RetAlloc w S L x wd n B) := by
  have hsh := hS.sh
  have hb1 := (pow_bd hS.sh).1
  have hb2 := (pow_bd hS.sh).2
  rw [hB] at hb1 hb2
  obtain ⟨hn1, hn2⟩ := hS.n2
  have hwl := hS.wl
  rw [hB] at hwl
  have hfB : S.fs.length * B ≤ 64 * 256 := Nat.mul_le_mul (by omega) hb2
  have hfB1 : 2 * 8 ≤ S.fs.length * B := Nat.mul_le_mul (by omega) hb1
  have hw1 : 0 < S.ws.length := by omega
  have hw2 : S.ws.length ≤ 100000 := by omega
  have Hc0 := Lib.hid (show wd = 0 → x.c = [] from fun h0 => List.eq_nil_of_length_eq_zero (by subst h0; have := ceilN_le 0 B (by omega); omega))
  have d1 : decide ((n : Int) < 1) = false := by (first | omega | (simp; done) | (simp; omega))
  have d1' : decide (n < 1) = false := by (first | omega | (simp; done) | (simp; omega))
  have d2 : decide ((48 : Int) < n) = false := by (first | omega | (simp; done) | (simp; omega))
  have d2' : decide (48 < n) = false := by (first | omega | (simp; done) | (simp; omega))
  clear hwl
  unfold spV incV
  go_enter Try.func36, Try.ntmps36
  go_upto_region 1 with fail
  have kS : Blk ((((w.alloc (.cells #[.int .i64 S.sh, .slice A S.ws.length a, .slice Bf S.fs.length b] 35)).alloc (.cells #[.int .i64 x.q, .int .i64 x.b, .int .i64 (posI x.c 0), .int .i64 (lastI x.c), .int .i64 wd] 24)).alloc (.cells #[.int .i64 0, .slice none 0 0, .slice none 0 0] 35)).alloc (.cells #[.int .i64 0, .int .i64 0, .int .i64 0, .int .i64 0, .int .i64 0] 24)) w.heap.size 35 #[.int .i64 S.sh, .slice A S.ws.length a, .slice Bf S.fs.length b] := Blk.alloc (Blk.alloc (Blk.alloc (Blk.new rfl) _) _) _
  have kI : Blk ((((w.alloc (.cells #[.int .i64 S.sh, .slice A S.ws.length a, .slice Bf S.fs.length b] 35)).alloc (.cells #[.int .i64 x.q, .int .i64 x.b, .int .i64 (posI x.c 0), .int .i64 (lastI x.c), .int .i64 wd] 24)).alloc (.cells #[.int .i64 0, .slice none 0 0, .slice none 0 0] 35)).alloc (.cells #[.int .i64 0, .int .i64 0, .int .i64 0, .int .i64 0, .int .i64 0] 24)) (w.heap.size + 1) 24 #[.int .i64 x.q, .int .i64 x.b, .int .i64 (posI x.c 0), .int .i64 (lastI x.c), .int .i64 wd] := Blk.alloc (Blk.alloc (Blk.new (by simp)) _) _
  have kR : Blk ((((w.alloc (.cells #[.int .i64 S.sh, .slice A S.ws.length a, .slice Bf S.fs.length b] 35)).alloc (.cells #[.int .i64 x.q, .int .i64 x.b, .int .i64 (posI x.c 0), .int .i64 (lastI x.c), .int .i64 wd] 24)).alloc (.cells #[.int .i64 0, .slice none 0 0, .slice none 0 0] 35)).alloc (.cells #[.int .i64 0, .int .i64 0, .int .i64 0, .int .i64 0, .int .i64 0] 24)) (w.heap.size + 1 + 1) 35 #[.int .i64 0, .slice none 0 0, .slice none 0 0] := Blk.alloc (Blk.new (by simp)) _
  have kQ : Blk ((((w.alloc (.cells #[.int .i64 S.sh, .slice A S.ws.length a, .slice Bf S.fs.length b] 35)).alloc (.cells #[.int .i64 x.q, .int .i64 x.b, .int .i64 (posI x.c 0), .int .i64 (lastI x.c), .int .i64 wd] 24)).alloc (.cells #[.int .i64 0, .slice none 0 0, .slice none 0 0] 35)).alloc (.cells #[.int .i64 0, .int .i64 0, .int .i64 0, .int .i64 0, .int .i64 0] 24)) (w.heap.size + 1 + 1 + 1) 24 #[.int .i64 0, .int .i64 0, .int .i64 0, .int .i64 0, .int .i64 0] := Blk.new (by simp)
  have hEW : Ext w ((((w.alloc (.cells #[.int .i64 S.sh, .slice A S.ws.length a, .slice Bf S.fs.length b] 35)).alloc (.cells #[.int .i64 x.q, .int .i64 x.b, .int .i64 (posI x.c 0), .int .i64 (lastI x.c), .int .i64 wd] 24)).alloc (.cells #[.int .i64 0, .slice none 0 0, .slice none 0 0] 35)).alloc (.cells #[.int .i64 0, .int .i64 0, .int .i64 0, .int .i64 0, .int .i64 0] 24)) := by (repeat (first | (with_reducible exact Ext.refl _) | assumption | (with_reducible refine Ext.alloc ?_ _) | (with_reducible refine Ext.drew ?_) | (with_reducible refine Ext.drewL ?_) | refine Ext.trans ?_ (by assumption)))
  generalize ((((w.alloc (.cells #[.int .i64 S.sh, .slice A S.ws.length a, .slice Bf S.fs.length b] 35)).alloc (.cells #[.int .i64 x.q, .int .i64 x.b, .int .i64 (posI x.c 0), .int .i64 (lastI x.c), .int .i64 wd] 24)).alloc (.cells #[.int .i64 0, .slice none 0 0, .slice none 0 0] 35)).alloc (.cells #[.int .i64 0, .int .i64 0, .int .i64 0, .int .i64 0, .int .i64 0] 24)) = W at kS kI kR kQ hEW ⊢
  obtain ⟨b0, hb0⟩ : ∃ b0, w.heap.size = b0 := ⟨_, rfl⟩
  rw [hb0] at kS kI kR kQ ⊢
  have Hb0 := Lib.hid hb0
  clear hb0
  have cS := kS.cell
  have lS := kS.lt
  have cI := kI.cell
  have lI := kI.lt
  by_cases h0 : wd = 0
  · have e0 : ((wd : Int) == 0) = true := by simp; omega
    have H0 := Lib.hid h0
    clear h0
    go_upto_region 5 with (first | (go_at_call 41; refine (bvalid_any A Bf a b S (x :: L) x wd B _ (h.ext hEW) hS List.mem_cons_self hB hwd).mono ?_; rintro e w1 ⟨rfl, hE1⟩; have kS1 := kS.ext hE1; have kI1 := kI.ext hE1; have kR1 := kR.ext hE1; have kQ1 := kQ.ext hE1; have cS1 := kS1.cell; have lS1 := kS1.lt; have cI1 := kI1.cell; have lI1 := kI1.lt) | (go_at_call 42; refine (owns_any A Bf a b S x.q _ (h.ext (hEW.trans hE1)) (by omega) (hS.none_of List.mem_cons_self (Hc0.out H0.out))).mono ?_; rintro e w1 ⟨rfl, hE2⟩; have kS2 := kS1.ext hE2; have kI2 := kI1.ext hE2; have kR2 := kR1.ext hE2; have kQ2 := kQ1.ext hE2; have cS2 := kS2.cell; have lS2 := kS2.lt; have cI2 := kI2.cell; have lI2 := kI2.lt))
    have hE0 := (hEW.trans hE1).trans hE2
    have kX := kS2
    have kY := kI2
    have kZ := kR2
    have kV := kQ2
    have hbase : w.heap.size ≤ w1.heap.size := hE0.size_le
    clear hEW hE1 hE2 kS kI kR kQ kS1 kI1 kR1 kQ1 kS2 kI2 kR2 kQ2 cS lS cI lI cS1 lS1 cI1 lI1 cS2 lS2 cI2 lI2 e0 d1 d1' d2 d2'
    have cX := kX.cell
    have lX := kX.lt
    go_upto_region 6 with (first | (go_at_call 43; refine (copy_any A Bf a b S _ (h.ext hE0) hw1 hw2 (by omega) (by omega)).mono ?_; rintro e w1 ⟨gW, cW, gF, cF, rfl, hO, hE3⟩))
    have hE5 := (hE0.trans hE3).trans (Ext.alloc (Ext.refl _) (.cells #[.int .i64 S.sh, .slice (some ⟨gW, 0, none⟩) S.ws.length cW, .slice (some ⟨gF, 0, none⟩) S.fs.length cF] 35))
    have hEx := hE3.trans (Ext.alloc (Ext.refl _) (.cells #[.int .i64 S.sh, .slice (some ⟨gW, 0, none⟩) S.ws.length cW, .slice (some ⟨gF, 0, none⟩) S.fs.length cF] 35))
    have hO5 := (hO.ext (Ext.alloc (Ext.refl _) (.cells #[.int .i64 S.sh, .slice (some ⟨gW, 0, none⟩) S.ws.length cW, .slice (some ⟨gF, 0, none⟩) S.fs.length cF] 35))).base_ hbase
    have hgF := hO.lt.2.2
    have hgW := hO.lt.1
    have lV := kV.lt
    replace kX := kX.ext hEx
    replace kY := kY.ext hEx
    replace kZ := kZ.ext hEx
    replace kV := kV.ext hEx
    have lz := hE3.size_le
    have kN : Blk (w1.alloc (.cells #[.int .i64 S.sh, .slice (some ⟨gW, 0, none⟩) S.ws.length cW, .slice (some ⟨gF, 0, none⟩) S.fs.length cF] 35)) w1.heap.size 35 #[.int .i64 S.sh, .slice (some ⟨gW, 0, none⟩) S.ws.length cW, .slice (some ⟨gF, 0, none⟩) S.fs.length cF] := Blk.new rfl
    generalize hW5 : w1.alloc (.cells #[.int .i64 S.sh, .slice (some ⟨gW, 0, none⟩) S.ws.length cW, .slice (some ⟨gF, 0, none⟩) S.fs.length cF] 35) = W5 at *
    clear hW5
    generalize w1.heap.size = bN at *
    have m1 : b0 + 1 + 1 + 1 < gF := by omega
    have m2 : gF < bN := by omega
    have m3 : b0 + 1 + 1 + 1 < gW := by omega
    have n0 : b0 ∉ [gF] := by simp; omega
    have n1 : b0 + 1 ∉ [gF] := by simp; omega
    have n2 : b0 + 1 + 1 ∉ [gF] := by simp; omega
    have n3 : b0 + 1 + 1 + 1 ∉ [gF] := by simp; omega
    have n4 : bN ∉ [gF] := by simp; omega
    have n5 := h.W
    clear n5 hEx hE3 hO cX lX lz hgW
    have cN := kN.cell
    have lN := kN.lt
    have cY := kY.cell
    have lY := kY.lt
    go_wp2_with fail
    go_at_call 44
    refine (grow_any gW cW gF cF w.heap.size S L x wd n B _ hO5 hS hB hwd h1 h2 hE5.size_le).mono ?_
    rintro e w6 (⟨rfl, hE6⟩ | ⟨fs, c, rfl, hfl, hcc, hpre, hC, hO6, hB6⟩)
    · have kZ6 := kZ.ext hE6
      have kV6 := kV.ext hE6
      have cZ6 := kZ6.cell
      have fZ6 := kZ6.froz
      have lZ6 := kZ6.lt
      have cV6 := kV6.cell
      have fV6 := kV6.froz
      have lV6 := kV6.lt
      clear cN lN cY lY
      go_wp2
      have m4 : b0 + 1 + 1 ≠ b0 + 1 + 1 + 1 := by omega
      have p1 := ((((((((kZ6.set_ 0 (.int .i64 0)).set_ 1 (.slice none 0 0)).set_ 2 (.slice none 0 0)).far (p := ⟨b0 + 1 + 1 + 1, 0, none⟩) m4 (.int .i64 0)).far (p := ⟨b0 + 1 + 1 + 1, 1, none⟩) m4 (.int .i64 0)).far (p := ⟨b0 + 1 + 1 + 1, 2, none⟩) m4 (.int .i64 0)).far (p := ⟨b0 + 1 + 1 + 1, 3, none⟩) m4 (.int .i64 0)).far (p := ⟨b0 + 1 + 1 + 1, 4, none⟩) m4 (.int .i64 0)).alloc (.cells #[.int .i64 0, .int .i64 0, .int .i64 0, .int .i64 0, .int .i64 0] 24)
      have p2 := ((((((((kV6.far (p := ⟨b0 + 1 + 1, 0, none⟩) m4.symm (.int .i64 0)).far (p := ⟨b0 + 1 + 1, 1, none⟩) m4.symm (.slice none 0 0)).far (p := ⟨b0 + 1 + 1, 2, none⟩) m4.symm (.slice none 0 0)).set_ 0 (.int .i64 0)).set_ 1 (.int .i64 0)).set_ 2 (.int .i64 0)).set_ 3 (.int .i64 0)).set_ 4 (.int .i64 0)).alloc (.cells #[.int .i64 0, .int .i64 0, .int .i64 0, .int .i64 0, .int .i64 0] 24)
      clear cZ6 fZ6 cV6 fV6
      refine fin_alloc rfl rfl rfl rfl rfl p1 p2 (Or.inl ⟨rfl, ?_⟩)
      have hb0 := Hb0.out
      refine Ext.alloc ?_ _
      repeat (refine Ext.setCell ?_ (by simp; omega) _)
      exact hE5.trans hE6
    · have kZ6 := kZ.but hB6 n2
      have kV6 := kV.but hB6 n3
      have kN6 := kN.but hB6 n4
      have cZ6 := kZ6.cell
      have fZ6 := kZ6.froz
      have lZ6 := kZ6.lt
      have cV6 := kV6.cell
      have fV6 := kV6.froz
      have lV6 := kV6.lt
      have cN6 := kN6.cell
      have lN6 := kN6.lt
      have Hfl := Lib.hid hfl
      have Hcc := Lib.hid hcc
      clear cN lN cY lY hfl hcc
      go_wp2_with fail
      have q1 : ¬ (bN = b0 + 1 + 1) := by omega
      have q2 : ¬ (bN = b0 + 1 + 1 + 1) := by omega
      have q3 : ¬ (w6.heap.size = b0 + 1 + 1) := by omega
      have q4 : ¬ (w6.heap.size = b0 + 1 + 1 + 1) := by omega
      refine wp_region_but [b0 + 1 + 1, b0 + 1 + 1 + 1] [(true, 0), (true, 1), (true, 2), (false, 3), (false, 4), (true, 5), (true, 6)] Try.mixed (by kernel_rfl) (by simp only [pick, List.filterMap_cons, List.filterMap_nil, List.getElem?_toArray, List.getElem?_cons_succ, List.getElem?_cons_zero, Option.map_some]; rfl) ?_
      intro hx hy
      repeat (first
        | (refine wpL_takeB hx (v := ?_) (by rfl) (fun _ hc => ?_) ?_
           rotate_left
           focus (go_simp; (try go_ints); exact rfl)
           simp only [Act.put, List.setIfInBounds_toArray, List.set_cons_zero, List.set_cons_succ])
        | (refine wpL_skip (by rfl) ?_; simp only [Act.put, List.setIfInBounds_toArray, List.set_cons_zero, List.set_cons_succ])
        | (refine wpL_call (by rfl) (fun K hK => ?_); go_simp; (first | (refine hK _ _ ?_ ?_; (focus ((repeat (first | (with_reducible exact But.refl _ _) | assumption | (with_reducible refine But.drew ?_) | (with_reducible refine But.drewL ?_) | (with_reducible refine But.setCell ?_ ?_ _; rotate_left; (focus (simp; done))) | (with_reducible refine But.setCellL ?_ ?_; rotate_left; (focus (simp; done))) | (with_reducible refine But.alloc2 ?_ ?_; rotate_left; (focus (simp [World.setCell]; done))) | (with_reducible refine But.allocL ?_ ?_ ?_; rotate_left; (focus (simp; done)); (focus (simp; done))) | (with_reducible refine But.alloc ?_ _))); done))) | (refine hK undef _ ?_ ?_; (focus ((repeat (first | (with_reducible exact But.refl _ _) | assumption | (with_reducible refine But.drew ?_) | (with_reducible refine But.drewL ?_) | (with_reducible refine But.setCell ?_ ?_ _; rotate_left; (focus (simp; done))) | (with_reducible refine But.setCellL ?_ ?_; rotate_left; (focus (simp; done))) | (with_reducible refine But.alloc2 ?_ ?_; rotate_left; (focus (simp [World.setCell]; done))) | (with_reducible refine But.allocL ?_ ?_ ?_; rotate_left; (focus (simp; done)); (focus (simp; done))) | (with_reducible refine But.alloc ?_ _))); done)))); clear hK; intro hr; replace hx := hx.trans hr; clear hr; try simp only [Act.put, List.setIfInBounds_toArray, List.set_cons_zero, List.set_cons_succ])
        | (refine wpL_call (by rfl) (fun K hK => ?_); have hcy := Ext.cell hy; have hfy := Ext.froz hy; go_simp; (first | (refine hK _ _ ?_ ?_; (focus ((repeat (first | (with_reducible exact But.refl _ _) | assumption | (with_reducible refine But.drew ?_) | (with_reducible refine But.drewL ?_) | (with_reducible refine But.setCell ?_ ?_ _; rotate_left; (focus (simp; done))) | (with_reducible refine But.setCellL ?_ ?_; rotate_left; (focus (simp; done))) | (with_reducible refine But.alloc2 ?_ ?_; rotate_left; (focus (simp [World.setCell]; done))) | (with_reducible refine But.allocL ?_ ?_ ?_; rotate_left; (focus (simp; done)); (focus (simp; done))) | (with_reducible refine But.alloc ?_ _))); done))) | (refine hK undef _ ?_ ?_; (focus ((repeat (first | (with_reducible exact But.refl _ _) | assumption | (with_reducible refine But.drew ?_) | (with_reducible refine But.drewL ?_) | (with_reducible refine But.setCell ?_ ?_ _; rotate_left; (focus (simp; done))) | (with_reducible refine But.setCellL ?_ ?_; rotate_left; (focus (simp; done))) | (with_reducible refine But.alloc2 ?_ ?_; rotate_left; (focus (simp [World.setCell]; done))) | (with_reducible refine But.allocL ?_ ?_ ?_; rotate_left; (focus (simp; done)); (focus (simp; done))) | (with_reducible refine But.alloc ?_ _))); done)))); clear hK; intro hr; replace hx := hx.trans hr; clear hr; try simp only [Act.put, List.setIfInBounds_toArray, List.set_cons_zero, List.set_cons_succ]))
      refine wpL_end ?_
      go_wp2
      have m4 : b0 + 1 + 1 ≠ b0 + 1 + 1 + 1 := by omega
      have p1 := (((((((((kZ6.set_ 0 (.int .i64 S.sh)).set_ 1 (.slice (some ⟨gW, 0, none⟩) S.ws.length cW)).set_ 2 (.slice (some ⟨gF, 0, none⟩) S.fs.length cF)).far (p := ⟨b0 + 1 + 1 + 1, 0, none⟩) m4 (.int .i64 x.q)).far (p := ⟨b0 + 1 + 1 + 1, 1, none⟩) m4 (.int .i64 x.b)).far (p := ⟨b0 + 1 + 1 + 1, 2, none⟩) m4 (.int .i64 (posI c 0))).far (p := ⟨b0 + 1 + 1 + 1, 3, none⟩) m4 (.int .i64 (lastI c))).far (p := ⟨b0 + 1 + 1 + 1, 4, none⟩) m4 (.int .i64 ((wd : Int) + n))).alloc (.cells #[.int .i64 x.q, .int .i64 x.b, .int .i64 (posI c 0), .int .i64 (lastI c), .int .i64 ((wd : Int) + n)] 24)).drew
      have p2 := (((((((((kV6.far (p := ⟨b0 + 1 + 1, 0, none⟩) m4.symm (.int .i64 S.sh)).far (p := ⟨b0 + 1 + 1, 1, none⟩) m4.symm (.slice (some ⟨gW, 0, none⟩) S.ws.length cW)).far (p := ⟨b0 + 1 + 1, 2, none⟩) m4.symm (.slice (some ⟨gF, 0, none⟩) S.fs.length cF)).set_ 0 (.int .i64 x.q)).set_ 1 (.int .i64 x.b)).set_ 2 (.int .i64 (posI c 0))).set_ 3 (.int .i64 (lastI c))).set_ 4 (.int .i64 ((wd : Int) + n))).alloc (.cells #[.int .i64 x.q, .int .i64 x.b, .int .i64 (posI c 0), .int .i64 (lastI c), .int .i64 ((wd : Int) + n)] 24)).drew
      simp only [List.setIfInBounds_toArray, List.set_cons_zero, List.set_cons_succ] at p1 p2
      refine fin_alloc (t8 := .int .i64 (addrN c B wd : Nat)) (t9 := .int .i64 0) rfl rfl rfl rfl rfl p1 p2 (Or.inr ⟨gW, cW, gF, cF, fs, c, by rw [Hfl.out, Int.natCast_add], Hfl.out, Hcc.out, hpre, hC, ?_, ?_⟩)
      · refine SOw.ext ?_ (Ext.drew (Ext.alloc (Ext.refl _) _))
        repeat (refine SOw.far ?_ (by simp; omega) (by simp; omega) _)
        exact hO6
      · have hb0 := Hb0.out
        refine Ext.drew (Ext.alloc ?_ _)
        repeat (refine Ext.setCell ?_ (by simp; omega) _)
        exact But.ext hE5 hB6 (fun y hy => by have := List.mem_singleton.1 hy; omega)
  · have e0 : ((wd : Int) == 0) = false := by simp; omega
    have H0 := Lib.hid h0
    clear h0
    go_upto_region 5 with (first | (go_at_call 41; refine (bvalid_any A Bf a b S (x :: L) x wd B _ (h.ext hEW) hS List.mem_cons_self hB hwd).mono ?_; rintro e w1 ⟨rfl, hE1⟩; have kS1 := kS.ext hE1; have kI1 := kI.ext hE1; have kR1 := kR.ext hE1; have kQ1 := kQ.ext hE1; have cS1 := kS1.cell; have lS1 := kS1.lt; have cI1 := kI1.cell; have lI1 := kI1.lt) | (go_at_call 42; refine (owns_any A Bf a b S x.q _ (h.ext (hEW.trans hE1)) (by omega) (hS.none_of List.mem_cons_self (Hc0.out H0.out))).mono ?_; rintro e w1 ⟨rfl, hE2⟩; have kS2 := kS1.ext hE2; have kI2 := kI1.ext hE2; have kR2 := kR1.ext hE2; have kQ2 := kQ1.ext hE2; have cS2 := kS2.cell; have lS2 := kS2.lt; have cI2 := kI2.cell; have lI2 := kI2.lt))
    have hE0 := hEW.trans hE1
    have kX := kS1
    have kY := kI1
    have kZ := kR1
    have kV := kQ1
    have hbase : w.heap.size ≤ w1.heap.size := hE0.size_le
    clear hEW hE1 kS kI kR kQ kS1 kI1 kR1 kQ1 cS lS cI lI cS1 lS1 cI1 lI1 e0 d1 d1' d2 d2'
    have cX := kX.cell
    have lX := kX.lt
    go_upto_region 6 with (first | (go_at_call 43; refine (copy_any A Bf a b S _ (h.ext hE0) hw1 hw2 (by omega) (by omega)).mono ?_; rintro e w1 ⟨gW, cW, gF, cF, rfl, hO, hE3⟩))
    have hE5 := (hE0.trans hE3).trans (Ext.alloc (Ext.refl _) (.cells #[.int .i64 S.sh, .slice (some ⟨gW, 0, none⟩) S.ws.length cW, .slice (some ⟨gF, 0, none⟩) S.fs.length cF] 35))
    have hEx := hE3.trans (Ext.alloc (Ext.refl _) (.cells #[.int .i64 S.sh, .slice (some ⟨gW, 0, none⟩) S.ws.length cW, .slice (some ⟨gF, 0, none⟩) S.fs.length cF] 35))
    have hO5 := (hO.ext (Ext.alloc (Ext.refl _) (.cells #[.int .i64 S.sh, .slice (some ⟨gW, 0, none⟩) S.ws.length cW, .slice (some ⟨gF, 0, none⟩) S.fs.length cF] 35))).base_ hbase
    have hgF := hO.lt.2.2
    have hgW := hO.lt.1
    have lV := kV.lt
    replace kX := kX.ext hEx
    replace kY := kY.ext hEx
    replace kZ := kZ.ext hEx
    replace kV := kV.ext hEx
    have lz := hE3.size_le
    have kN : Blk (w1.alloc (.cells #[.int .i64 S.sh, .slice (some ⟨gW, 0, none⟩) S.ws.length cW, .slice (some ⟨gF, 0, none⟩) S.fs.length cF] 35)) w1.heap.size 35 #[.int .i64 S.sh, .slice (some ⟨gW, 0, none⟩) S.ws.length cW, .slice (some ⟨gF, 0, none⟩) S.fs.length cF] := Blk.new rfl
    generalize hW5 : w1.alloc (.cells #[.int .i64 S.sh, .slice (some ⟨gW, 0, none⟩) S.ws.length cW, .slice (some ⟨gF, 0, none⟩) S.fs.length cF] 35) = W5 at *
    clear hW5
    generalize w1.heap.size = bN at *
    have m1 : b0 + 1 + 1 + 1 < gF := by omega
    have m2 : gF < bN := by omega
    have m3 : b0 + 1 + 1 + 1 < gW := by omega
    have n0 : b0 ∉ [gF] := by simp; omega
    have n1 : b0 + 1 ∉ [gF] := by simp; omega
    have n2 : b0 + 1 + 1 ∉ [gF] := by simp; omega
    have n3 : b0 + 1 + 1 + 1 ∉ [gF] := by simp; omega
    have n4 : bN ∉ [gF] := by simp; omega
    have n5 := h.W
    clear n5 hEx hE3 hO cX lX lz hgW
    have cN := kN.cell
    have lN := kN.lt
    have cY := kY.cell
    have lY := kY.lt
    go_wp2_with fail
    go_at_call 44
    refine (grow_any gW cW gF cF w.heap.size S L x wd n B _ hO5 hS hB hwd h1 h2 hE5.size_le).mono ?_
    rintro e w6 (⟨rfl, hE6⟩ | ⟨fs, c, rfl, hfl, hcc, hpre, hC, hO6, hB6⟩)
    · have kZ6 := kZ.ext hE6
      have kV6 := kV.ext hE6
      have cZ6 := kZ6.cell
      have fZ6 := kZ6.froz
      have lZ6 := kZ6.lt
      have cV6 := kV6.cell
      have fV6 := kV6.froz
      have lV6 := kV6.lt
      clear cN lN cY lY
      go_wp2
      have m4 : b0 + 1 + 1 ≠ b0 + 1 + 1 + 1 := by omega
      have p1 := ((((((((kZ6.set_ 0 (.int .i64 0)).set_ 1 (.slice none 0 0)).set_ 2 (.slice none 0 0)).far (p := ⟨b0 + 1 + 1 + 1, 0, none⟩) m4 (.int .i64 0)).far (p := ⟨b0 + 1 + 1 + 1, 1, none⟩) m4 (.int .i64 0)).far (p := ⟨b0 + 1 + 1 + 1, 2, none⟩) m4 (.int .i64 0)).far (p := ⟨b0 + 1 + 1 + 1, 3, none⟩) m4 (.int .i64 0)).far (p := ⟨b0 + 1 + 1 + 1, 4, none⟩) m4 (.int .i64 0)).alloc (.cells #[.int .i64 0, .int .i64 0, .int .i64 0, .int .i64 0, .int .i64 0] 24)
      have p2 := ((((((((kV6.far (p := ⟨b0 + 1 + 1, 0, none⟩) m4.symm (.int .i64 0)).far (p := ⟨b0 + 1 + 1, 1, none⟩) m4.symm (.slice none 0 0)).far (p := ⟨b0 + 1 + 1, 2, none⟩) m4.symm (.slice none 0 0)).set_ 0 (.int .i64 0)).set_ 1 (.int .i64 0)).set_ 2 (.int .i64 0)).set_ 3 (.int .i64 0)).set_ 4 (.int .i64 0)).alloc (.cells #[.int .i64 0, .int .i64 0, .int .i64 0, .int .i64 0, .int .i64 0] 24)
      clear cZ6 fZ6 cV6 fV6
      refine fin_alloc rfl rfl rfl rfl rfl p1 p2 (Or.inl ⟨rfl, ?_⟩)
      have hb0 := Hb0.out
      refine Ext.alloc ?_ _
      repeat (refine Ext.setCell ?_ (by simp; omega) _)
      exact hE5.trans hE6
    · have kZ6 := kZ.but hB6 n2
      have kV6 := kV.but hB6 n3
      have kN6 := kN.but hB6 n4
      have cZ6 := kZ6.cell
      have fZ6 := kZ6.froz
      have lZ6 := kZ6.lt
      have cV6 := kV6.cell
      have fV6 := kV6.froz
      have lV6 := kV6.lt
      have cN6 := kN6.cell
      have lN6 := kN6.lt
      have Hfl := Lib.hid hfl
      have Hcc := Lib.hid hcc
      clear cN lN cY lY hfl hcc
      go_wp2_with fail
      have q1 : ¬ (bN = b0 + 1 + 1) := by omega
      have q2 : ¬ (bN = b0 + 1 + 1 + 1) := by omega
      have q3 : ¬ (w6.heap.size = b0 + 1 + 1) := by omega
      have q4 : ¬ (w6.heap.size = b0 + 1 + 1 + 1) := by omega
      refine wp_region_but [b0 + 1 + 1, b0 + 1 + 1 + 1] [(true, 0), (true, 1), (true, 2), (false, 3), (false, 4), (true, 5), (true, 6)] Try.mixed (by kernel_rfl) (by simp only [pick, List.filterMap_cons, List.filterMap_nil, List.getElem?_toArray, List.getElem?_cons_succ, List.getElem?_cons_zero, Option.map_some]; rfl) ?_
      intro hx hy
      repeat (first
        | (refine wpL_takeB hx (v := ?_) (by rfl) (fun _ hc => ?_) ?_
           rotate_left
           focus (go_simp; (try go_ints); exact rfl)
           simp only [Act.put, List.setIfInBounds_toArray, List.set_cons_zero, List.set_cons_succ])
        | (refine wpL_skip (by rfl) ?_; simp only [Act.put, List.setIfInBounds_toArray, List.set_cons_zero, List.set_cons_succ])
        | (refine wpL_call (by rfl) (fun K hK => ?_); go_simp; (first | (refine hK _ _ ?_ ?_; (focus ((repeat (first | (with_reducible exact But.refl _ _) | assumption | (with_reducible refine But.drew ?_) | (with_reducible refine But.drewL ?_) | (with_reducible refine But.setCell ?_ ?_ _; rotate_left; (focus (simp; done))) | (with_reducible refine But.setCellL ?_ ?_; rotate_left; (focus (simp; done))) | (with_reducible refine But.alloc2 ?_ ?_; rotate_left; (focus (simp [World.setCell]; done))) | (with_reducible refine But.allocL ?_ ?_ ?_; rotate_left; (focus (simp; done)); (focus (simp; done))) | (with_reducible refine But.alloc ?_ _))); done))) | (refine hK undef _ ?_ ?_; (focus ((repeat (first | (with_reducible exact But.refl _ _) | assumption | (with_reducible refine But.drew ?_) | (with_reducible refine But.drewL ?_) | (with_reducible refine But.setCell ?_ ?_ _; rotate_left; (focus (simp; done))) | (with_reducible refine But.setCellL ?_ ?_; rotate_left; (focus (simp; done))) | (with_reducible refine But.alloc2 ?_ ?_; rotate_left; (focus (simp [World.setCell]; done))) | (with_reducible refine But.allocL ?_ ?_ ?_; rotate_left; (focus (simp; done)); (focus (simp; done))) | (with_reducible refine But.alloc ?_ _))); done)))); clear hK; intro hr; replace hx := hx.trans hr; clear hr; try simp only [Act.put, List.setIfInBounds_toArray, List.set_cons_zero, List.set_cons_succ])
        | (refine wpL_call (by rfl) (fun K hK => ?_); have hcy := Ext.cell hy; have hfy := Ext.froz hy; go_simp; (first | (refine hK _ _ ?_ ?_; (focus ((repeat (first | (with_reducible exact But.refl _ _) | assumption | (with_reducible refine But.drew ?_) | (with_reducible refine But.drewL ?_) | (with_reducible refine But.setCell ?_ ?_ _; rotate_left; (focus (simp; done))) | (with_reducible refine But.setCellL ?_ ?_; rotate_left; (focus (simp; done))) | (with_reducible refine But.alloc2 ?_ ?_; rotate_left; (focus (simp [World.setCell]; done))) | (with_reducible refine But.allocL ?_ ?_ ?_; rotate_left; (focus (simp; done)); (focus (simp; done))) | (with_reducible refine But.alloc ?_ _))); done))) | (refine hK undef _ ?_ ?_; (focus ((repeat (first | (with_reducible exact But.refl _ _) | assumption | (with_reducible refine But.drew ?_) | (with_reducible refine But.drewL ?_) | (with_reducible refine But.setCell ?_ ?_ _; rotate_left; (focus (simp; done))) | (with_reducible refine But.setCellL ?_ ?_; rotate_left; (focus (simp; done))) | (with_reducible refine But.alloc2 ?_ ?_; rotate_left; (focus (simp [World.setCell]; done))) | (with_reducible refine But.allocL ?_ ?_ ?_; rotate_left; (focus (simp; done)); (focus (simp; done))) | (with_reducible refine But.alloc ?_ _))); done)))); clear hK; intro hr; replace hx := hx.trans hr; clear hr; try simp only [Act.put, List.setIfInBounds_toArray, List.set_cons_zero, List.set_cons_succ]))
      refine wpL_end ?_
      go_wp2
      have m4 : b0 + 1 + 1 ≠ b0 + 1 + 1 + 1 := by omega
      have p1 := (((((((((kZ6.set_ 0 (.int .i64 S.sh)).set_ 1 (.slice (some ⟨gW, 0, none⟩) S.ws.length cW)).set_ 2 (.slice (some ⟨gF, 0, none⟩) S.fs.length cF)).far (p := ⟨b0 + 1 + 1 + 1, 0, none⟩) m4 (.int .i64 x.q)).far (p := ⟨b0 + 1 + 1 + 1, 1, none⟩) m4 (.int .i64 x.b)).far (p := ⟨b0 + 1 + 1 + 1, 2, none⟩) m4 (.int .i64 (posI c 0))).far (p := ⟨b0 + 1 + 1 + 1, 3, none⟩) m4 (.int .i64 (lastI c))).far (p := ⟨b0 + 1 + 1 + 1, 4, none⟩) m4 (.int .i64 ((wd : Int) + n))).alloc (.cells #[.int .i64 x.q, .int .i64 x.b, .int .i64 (posI c 0), .int .i64 (lastI c), .int .i64 ((wd : Int) + n)] 24)).drew
      have p2 := (((((((((kV6.far (p := ⟨b0 + 1 + 1, 0, none⟩) m4.symm (.int .i64 S.sh)).far (p := ⟨b0 + 1 + 1, 1, none⟩) m4.symm (.slice (some ⟨gW, 0, none⟩) S.ws.length cW)).far (p := ⟨b0 + 1 + 1, 2, none⟩) m4.symm (.slice (some ⟨gF, 0, none⟩) S.fs.length cF)).set_ 0 (.int .i64 x.q)).set_ 1 (.int .i64 x.b)).set_ 2 (.int .i64 (posI c 0))).set_ 3 (.int .i64 (lastI c))).set_ 4 (.int .i64 ((wd : Int) + n))).alloc (.cells #[.int .i64 x.q, .int .i64 x.b, .int .i64 (posI c 0), .int .i64 (lastI c), .int .i64 ((wd : Int) + n)] 24)).drew
      simp only [List.setIfInBounds_toArray, List.set_cons_zero, List.set_cons_succ] at p1 p2
      refine fin_alloc (t8 := .int .i64 (addrN c B wd : Nat)) (t9 := .int .i64 0) rfl rfl rfl rfl rfl p1 p2 (Or.inr ⟨gW, cW, gF, cF, fs, c, by rw [Hfl.out, Int.natCast_add], Hfl.out, Hcc.out, hpre, hC, ?_, ?_⟩)
      · refine SOw.ext ?_ (Ext.drew (Ext.alloc (Ext.refl _) _))
        repeat (refine SOw.far ?_ (by simp; omega) (by simp; omega) _)
        exact hO6
      · have hb0 := Hb0.out
        refine Ext.drew (Ext.alloc ?_ _)
        repeat (refine Ext.setCell ?_ (by simp; omega) _)
        exact But.ext hE5 hB6 (fun y hy => by have := List.mem_singleton.1 hy; omega)
end Go.Proofs.Ytljkadpconghnaa
